/- Parts of this claim's texts, packed by wip/tools/prune.py: what the proof does not reach is left out. -/
import Derived.Test.YtndkmnjbjlfeaaaGreatMI5
import Derived.Laws.Externs
section
namespace Go.Proofs.YtndkmnjbjlfeaaaGreat.Given
open Go Go.RowKit Go.Proofs.YtndkmnjbjlfeaaaGreatW.PrintWords Go.Proofs.YtndkmnjbjlfeaaaGreatW.PrintLast Go.Proofs.YtndkmnjbjlfeaaaGreatW.PrintMore
theorem qA {e : Ending} {w : World} {a b : Nat} : e = e ∧ ∃ k, (w.drewN a).drewN b = w.drewN k := ⟨rfl, _, World.drewN_drewN _ _ _⟩
theorem qB {e : Ending} {w : World} {a b c : Nat} : e = e ∧ ∃ k, (w.drewN (a + b)).drewN c = w.drewN (a + k) := ⟨rfl, b + c, (World.drewN_drewN _ _ _).trans (congrArg (World.drewN _) (Nat.add_assoc _ _ _))⟩
def bits_Add64.f (a b c : Int) : Option (Int × Int) :=
  if 0 ≤ a ∧ 0 ≤ b ∧ 0 ≤ c ∧ c ≤ 1 then some ((a + b + c) % 18446744073709551616, (a + b + c) / 18446744073709551616) else none
theorem bits_Add64.run (a b c r1 r2 : Int) (w : World) (h : bits_Add64.f a b c = some (r1, r2)) :
    (callFunc 155 #[.int .u64 a, .int .u64 b, .int .u64 c]).run Tryz.prog w = .ok (.value (.tuple #[.int .u64 r1, .int .u64 r2])) w := by
  unfold bits_Add64.f at h
  by_cases h0 : 0 ≤ a ∧ 0 ≤ b ∧ 0 ≤ c ∧ c ≤ 1
  · rw [if_pos h0] at h
    obtain ⟨h0, h1, h2, h3⟩ := h0
    simp only [Option.some.injEq, Prod.mk.injEq] at h
    obtain ⟨rfl, rfl⟩ := h
    rw [run_callFunc_extern Tryz.func155 (by kernel_rfl) (by kernel_rfl) (by kernel_rfl) (e := add64Entry) (by kernel_rfl), run_add64 a b c h0 h1 h2 h3]
    rfl
  · rw [if_neg h0] at h; cases h
def bits_Mul64.f (a b : Int) : Option (Int × Int) :=
  if 0 ≤ a ∧ a < 18446744073709551616 ∧ 0 ≤ b ∧ b < 18446744073709551616 then some (a * b / 18446744073709551616, a * b % 18446744073709551616) else none
theorem bits_Mul64.calls (a0 a1 r1 r2 : Int) (w : World) (h : bits_Mul64.f a0 a1 = some (r1, r2)) :
    Calls Tryz.prog 125 #[.int .u64 a0, .int .u64 a1] w fun e w' => e = .returned (.tuple #[.int .u64 r1, .int .u64 r2]) ∧ Drawn0 w w' := by
  unfold bits_Mul64.f at h
  by_cases h0 : 0 ≤ a0 ∧ a0 < 18446744073709551616 ∧ 0 ≤ a1 ∧ a1 < 18446744073709551616
  · rw [if_pos h0] at h
    obtain ⟨h0, h1, h2, h3⟩ := h0
    simp only [Option.some.injEq, Prod.mk.injEq] at h
    obtain ⟨rfl, rfl⟩ := h
    obtain ⟨x, rfl⟩ := Int.eq_ofNat_of_zero_le h0
    obtain ⟨y, rfl⟩ := Int.eq_ofNat_of_zero_le h2
    refine (Tryz.bits_Mul64 x y (by omega) (by omega) w).mono ?_
    rintro e w' ⟨rfl, rfl⟩
    refine ⟨?_, Drawn0.refl _⟩
    rw [Int.natCast_ediv, Int.natCast_emod, Int.natCast_mul]
    rfl
  · rw [if_neg h0] at h; cases h
def bits_LeadingZeros64.f (a : Int) : Option Int :=
  if 0 ≤ a ∧ a ≤ 18446744073709551615 then some (64 - (Lib.bitLen a.toNat : Int)) else none
theorem bits_LeadingZeros64.calls (a0 r : Int) (w : World) (h : bits_LeadingZeros64.f a0 = some r) :
    Calls Tryz.prog 167 #[.int .u64 a0] w fun e w' => e = .returned (.int .i64 r) ∧ Drawn0 w w' := by
  unfold bits_LeadingZeros64.f at h
  by_cases h0 : 0 ≤ a0 ∧ a0 ≤ 18446744073709551615
  · rw [if_pos h0] at h
    obtain rfl := Option.some.inj h
    refine (Tryz.bits_LeadingZeros64 a0 w h0.1 h0.2).mono ?_
    rintro e w' ⟨rfl, rfl⟩
    exact ⟨rfl, Drawn0.refl _⟩
  · rw [if_neg h0] at h; cases h
end Go.Proofs.YtndkmnjbjlfeaaaGreat.Given
end
section
namespace Go.Proofs.YtndkmnjbjlfeaaaGreat.XS
open Go.RowKit Go.Proofs.YtndkmnjbjlfeaaaGreat.Given Go.Proofs.YtndkmnjbjlfeaaaGreatW.PrintWords Go.Proofs.YtndkmnjbjlfeaaaGreatW.PrintLast Go.Proofs.YtndkmnjbjlfeaaaGreatW.PrintMore
attribute [local go_sem] max2_int min2_int max_two min_two max_three min_three max_four min_four   -- for this text's walks alone
set_option linter.unusedVariables false
set_option linter.unusedSimpArgs false
mutual
def sieve_Factor.j0 : Nat → Int → Bool → Option ((List (S147)))
 | 0, _, _ => none
 | k + 1, x0, x11 => if x11 = true then (some ([] : List (S147))) else (sieve_Factor.l0 k x0 ([] : List (S147)) 2)
def sieve_Factor.l0 : Nat → Int → List (S147) → Int → Option ((List (S147)))
 | 0, _, _, _ => none
 | k + 1, x0, x3, x4 => if x0 > 1 then (if (IntKind.u64.wrap (x4 * x4)) > x0 then (sieve_Factor.j2 k x0 x3 x0) else (sieve_Factor.j2 k x0 x3 x4)) else (some x3)
def sieve_Factor.j2 : Nat → Int → List (S147) → Int → Option ((List (S147)))
 | 0, _, _, _ => none
 | k + 1, x0, x3, x4 => sieve_Factor.l1 k x0 x3 x4 0
def sieve_Factor.l1 : Nat → Int → List (S147) → Int → Int → Option ((List (S147)))
 | 0, _, _, _, _ => none
 | k + 1, x0, x3, x4, x5 => if x4 = 0 then (none) else (if (Int.tmod x0 x4) = 0 then (sieve_Factor.l1 k (IntKind.u64.wrap (Int.tdiv x0 x4)) x3 x4 (wrap64 (x5 + 1))) else (if x5 > 0 then (if x3.length < 8796093022208 then (sieve_Factor.l0 k x0 (x3 ++ [(⟨x4, x5⟩ : S147)]) (IntKind.u64.wrap (x4 + 1))) else (none)) else (sieve_Factor.l0 k x0 x3 (IntKind.u64.wrap (x4 + 1)))))
end
def sieve_Factor.f (k : Nat) (a0 : Int) : Option ((List (S147))) := if a0 < 2 then (sieve_Factor.j0 k a0 true) else (sieve_Factor.j0 k a0 (decide (a0 > 4294967296)))
set_option maxHeartbeats 8000000 in
set_option maxRecDepth 100000 in
theorem sieve_Factor.calls (k : Nat) (a0 : Int) (r : List (S147)) (w : World) (h : sieve_Factor.f k a0 = some r) :
  Calls Tryz.prog 143 #[.int .u64 a0] w fun e w' => ∃ v0_ : Value, e = .returned (v0_) ∧ Kd.R k147 147 w' w.heap.size (fun _ => True) v0_ r ∧ Below w.heap.size w w' := by
 have hu147 := Tryz.underlying147
 have HB := Aside0.mk (Below.refl w.heap.size w)
 have H := h; unfold sieve_Factor.f at H
 clear h
 have HC2 := Aside0.mk H
 clear H
 go_enter Tryz.func143, Tryz.ntmps143
 go_upto_region 1 with (fail)
 go_cut [11] (fun v11 wc => ∃ (kq : Nat) (x11_1 : Bool), v11 = .bool x11_1 ∧ Aside0 (sieve_Factor.j0 kq a0 x11_1 = some r) ∧ Aside0 (kq ≤ k) ∧ Aside0 (Below w.heap.size w wc))
 case first =>
  have H := HC2.out
  clear HC2
  by_cases c3 : a0 < 2
  ·rw [if_pos c3] at H
   have c3b0 := decide_eq_true c3
   clear c3
   (first | rw [c3b0] | (simp only [i64_w, i32_w]; rw [c3b0]) | skip)
   have H' := Aside0.mk H
   clear H
   go_wp2
   go_meet
   case rel => exact ⟨_, (true), eq_, H', ⟨by first | omega | exact Nat.le_refl _⟩, ⟨bel_⟩⟩
  ·rw [if_neg c3] at H
   have c3b0 := decide_eq_false c3
   clear c3
   (first | rw [c3b0] | (simp only [i64_w, i32_w]; rw [c3b0]) | skip)
   have H' := Aside0.mk H
   clear H
   go_wp2
   go_meet
   case rel => exact ⟨_, (decide (a0 > 4294967296)), eq_, H', ⟨by first | omega | exact Nat.le_refl _⟩, ⟨bel_⟩⟩
 case rest =>
  clear HC2
  obtain ⟨kq, x11_1, rfl, HA, HJ1, HB⟩ := hcut
  cases kq with
  | zero => exact absurd HA.out (by simp [sieve_Factor.j0])
  | succ kj1 =>
   have H := HA.out
   clear HA
   simp only [sieve_Factor.j0] at H
   by_cases c4 : x11_1 = true
   ·subst c4
    have H1 := H; rw [if_pos rfl] at H1
    clear H
    have H := H1
    clear H1
    obtain rfl := Option.some.inj H
    go_wp2
    go_ret
    exact ⟨_, by first | rfl | (simp [errW_none, errW_some] <;> rfl) | (simp [*, errW_none, errW_some] <;> rfl), by first | exact Kd.R_nil _ _ _ _ _ | exact Kd.N_nil _ _ _ _ _ | exact Kd.V_nil _ _ _ _ _ | exact Kd.Q_nil _ _ _ _ _ | exact Kd.S_nil _ _ _ _ _, bel_⟩
   ·replace c4 := Bool.eq_false_iff.mpr c4
    subst c4
    have H1 := H; rw [if_neg (show ¬ (false = true) by decide)] at H1
    clear H
    have H := H1
    clear H1
    have H' := Aside0.mk H
    clear H
    go_wp2
    go_loopg [0, 3, 4] kj1 (fun kq v0 v3 v4 w' => ∃ (x0_2 : Int) (x3_2 : List (S147)) (x4_2 : Int), v0 = .int .u64 x0_2 ∧ v4 = .int .u64 x4_2 ∧ Aside0 (sieve_Factor.l0 kq x0_2 x3_2 x4_2 = some r) ∧ Aside0 (kq ≤ kj1) ∧ Aside0 (Kd.R k147 147 w' w.heap.size (fun _ => True) v3 x3_2) ∧ Aside0 (Below w.heap.size w w'))
    case atStart => exact ⟨(a0), (([] : List (S147))), (2), eq_, eq_, H', ⟨Nat.le_refl _⟩, ⟨by first | exact Kd.R_nil _ _ _ _ _ | exact Kd.N_nil _ _ _ _ _ | exact Kd.V_nil _ _ _ _ _ | exact Kd.Q_nil _ _ _ _ _ | exact Kd.S_nil _ _ _ _ _⟩, ⟨bel_⟩⟩
    case round =>
     clear H'
     obtain ⟨x0_2, x3_2, x4_2, rfl, rfl, HA, HK2, HO_3, HB⟩ := hrel
     cases gk with
     | zero => exact absurd HA.out (by simp [sieve_Factor.l0])
     | succ k2 =>
      have H := HA.out
      clear HA
      simp only [sieve_Factor.l0] at H
      by_cases c5 : x0_2 > 1
      ·rw [if_pos c5] at H
       have c5b0 := decide_eq_true c5
       clear c5
       have HC6 := Aside0.mk H
       clear H
       go_upto_if 20 with (fail)
       go_cut [4] (fun v4 wc => ∃ (kq : Nat) (x4_5 : Int), v4 = .int .u64 x4_5 ∧ Aside0 (sieve_Factor.j2 kq x0_2 x3_2 x4_5 = some r) ∧ Aside0 (kq ≤ k2) ∧ Aside0 (Kd.R k147 147 wc w.heap.size (fun _ => True) u3 x3_2) ∧ Aside0 (Below w.heap.size w wc))
       case first =>
        have H := HC6.out
        clear HC6
        by_cases c7 : (IntKind.u64.wrap (x4_2 * x4_2)) > x0_2
        ·rw [if_pos c7] at H
         have c7b0 := decide_eq_true c7
         clear c7
         (first | rw [c7b0] | (simp only [i64_w, i32_w]; rw [c7b0]) | skip)
         have H' := Aside0.mk H
         clear H
         go_wp2
         go_meet
         case rel => exact ⟨_, (x0_2), eq_, H', ⟨by have := HJ1.out; have := HK2.out; first | omega | exact Nat.le_refl _⟩, ⟨rel_ HO_3.out⟩, ⟨bel_⟩⟩
        ·rw [if_neg c7] at H
         have c7b0 := decide_eq_false c7
         clear c7
         (first | rw [c7b0] | (simp only [i64_w, i32_w]; rw [c7b0]) | skip)
         have H' := Aside0.mk H
         clear H
         go_wp2
         go_meet
         case rel => exact ⟨_, (x4_2), eq_, H', ⟨by have := HJ1.out; have := HK2.out; first | omega | exact Nat.le_refl _⟩, ⟨rel_ HO_3.out⟩, ⟨bel_⟩⟩
       case rest =>
        clear HC6
        obtain ⟨kq, x4_5, rfl, HA, HJ5, HO_3, HB⟩ := hcut
        cases kq with
        | zero => exact absurd HA.out (by simp [sieve_Factor.j2])
        | succ kj5 =>
         have H := HA.out
         clear HA
         simp only [sieve_Factor.j2] at H
         have H' := Aside0.mk H
         clear H
         go_wp2
         go_loopg [0, 5] kj5 (fun kq v0 v5 w' => ∃ (x0_4 : Int) (x5_4 : Int), v0 = .int .u64 x0_4 ∧ v5 = .int .i64 x5_4 ∧ Aside0 (sieve_Factor.l1 kq x0_4 x3_2 x4_5 x5_4 = some r) ∧ Aside0 (kq ≤ kj5) ∧ Aside0 (Kd.R k147 147 w' w.heap.size (fun _ => True) u3 x3_2) ∧ Aside0 (Below w.heap.size w w'))
         case atStart => exact ⟨(x0_2), (0), eq_, eq_, H', ⟨Nat.le_refl _⟩, ⟨rel_ HO_3.out⟩, ⟨bel_⟩⟩
         case round =>
          clear H'
          obtain ⟨x0_4, x5_4, rfl, rfl, HA, HK4, HO_3, HB⟩ := hrel
          cases gk with
          | zero => exact absurd HA.out (by simp [sieve_Factor.l1])
          | succ k4 =>
           have H := HA.out
           clear HA
           simp only [sieve_Factor.l1] at H
           by_cases c8 : x4_5 = 0
           ·rw [if_pos c8] at H
            exact absurd H (by simp)
           ·rw [if_neg c8] at H
            have c8b0 := beq_eq_false_iff_ne.mpr c8
            have c8b1 := bne_iff_ne.mpr c8
            by_cases c9 : (Int.tmod x0_4 x4_5) = 0
            ·rw [if_pos c9] at H
             have c9b0 := beq_iff_eq.mpr c9
             have c9b1 := bne_eq_false_iff_eq.mpr c9
             clear c9
             have H' := Aside0.mk H
             clear H
             go_wp2
             go_roundg k4
             case measure => have := HJ1.out; have := HK2.out; have := HJ5.out; have := HK4.out; omega
             case rel => exact ⟨(IntKind.u64.wrap (Int.tdiv x0_4 x4_5)), (wrap64 (x5_4 + 1)), eq_, eq_, H', ⟨by have := HJ1.out; have := HK2.out; have := HJ5.out; have := HK4.out; omega⟩, ⟨rel_ HO_3.out⟩, ⟨bel_⟩⟩
            ·rw [if_neg c9] at H
             have c9b0 := beq_eq_false_iff_ne.mpr c9
             have c9b1 := bne_iff_ne.mpr c9
             by_cases c10 : x5_4 > 0
             ·rw [if_pos c10] at H
              have c10b0 := decide_eq_true c10
              clear c10
              by_cases c11 : x3_2.length < 8796093022208
              ·rw [if_pos c11] at H
               have LMc11 := Aside0.mk c11
               clear c11
               obtain ⟨y101, hy101⟩ : ∃ y_ : List (S147), y_ = (x3_2 ++ [(⟨x4_5, x5_4⟩ : S147)]) := ⟨_, rfl⟩
               replace H : (sieve_Factor.l0 k4 x0_4 y101 (IntKind.u64.wrap (x4_5 + 1))) = some r := by first | (rw [hy101]; with_reducible exact H) | (have H2_ := (Option.bind_some _ _).symm.trans H; rw [hy101]; with_reducible exact H2_) | (have H2_ := (Option.bind_some _ _).symm.trans H; with_reducible exact H2_) | with_reducible exact H | (rw [hy101]; exact H) | exact H
               have Ny101 := Aside0.mk hy101
               clear hy101
               have H' := Aside0.mk H
               clear H
               go_wp2_with (first | ((with_reducible refine gate_builtin (b := .append) (xs := #[.tmp 33, .tmp 37]) rfl ?_); at_builtin; refine Kd.R_append k147 (w0 := w) w.heap.size rfl (.tmp 33) (.tmp 37) 92 147 (.agg #[(.int .u64 0), (.int .i64 0)]) 16 rfl Tryz.underlying92 info147 rfl (by decide) (by omega) u3 x3_2 (⟨x4_5, x5_4⟩ : S147) [.int .u64 x4_5, .int .i64 x5_4] (fun _ => True) (fun _ => False) rfl rfl ?aP (fun _ hk => hk.elim) ?aF ?aO ?aB ?aS ?aL ?_; (case aP => exact k147_mkM _ _ _ (⟨x4_5, x5_4⟩ : S147)); (case aB => exact bel_); (case aF => exact (fun _ _ => trivial)); (case aO => exact (rel_ HO_3.out)); (case aS => exact (below_size bel_)); (case aL => have := LMc11.out; omega); intro v102 w12 ho hb hg hat; rw [← Ny101.out] at ho; have n0_ := Aside0.mk (hb); have n1_ := Aside0.mk (ho); clear HB; clear HO_3; have HB := n0_; have HO103 := n1_; clear n0_ n1_; clear ho hb hg hat))
               go_roundg k4
               case measure => have := HJ1.out; have := HK2.out; have := HJ5.out; have := HK4.out; omega
               case rel => exact ⟨(x0_4), (y101), (IntKind.u64.wrap (x4_5 + 1)), eq_, eq_, H', ⟨by have := HJ1.out; have := HK2.out; have := HJ5.out; have := HK4.out; omega⟩, ⟨rel_ HO103.out⟩, ⟨bel_⟩⟩
              ·rw [if_neg c11] at H
               exact absurd H (by simp)
             ·rw [if_neg c10] at H
              have c10b0 := decide_eq_false c10
              clear c10
              have H' := Aside0.mk H
              clear H
              go_wp2
              go_roundg k4
              case measure => have := HJ1.out; have := HK2.out; have := HJ5.out; have := HK4.out; omega
              case rel => exact ⟨(x0_4), (x3_2), (IntKind.u64.wrap (x4_5 + 1)), eq_, eq_, H', ⟨by have := HJ1.out; have := HK2.out; have := HJ5.out; have := HK4.out; omega⟩, ⟨rel_ HO_3.out⟩, ⟨bel_⟩⟩
      ·rw [if_neg c5] at H
       have c5b0 := decide_eq_false c5
       clear c5
       obtain rfl := Option.some.inj H
       go_wp2
       go_ret
       exact ⟨_, by first | rfl | (simp [errW_none, errW_some] <;> rfl) | (simp [*, errW_none, errW_some] <;> rfl), rel_ HO_3.out, bel_⟩
def sieve_Prime.f (k : Nat) (a0 : Int) : Option (Bool) := (sieve_Factor.f k a0).bind fun t104 => (if (t104.length : Int) = 1 then (if 0 < (t104.length : Int) then (some (((rd_T147 t104 0).f1) == 1)) else (none)) else (some false))
set_option maxHeartbeats 8000000 in
set_option maxRecDepth 100000 in
theorem sieve_Prime.calls (k : Nat) (a0 : Int) (r : Bool) (w : World) (h : sieve_Prime.f k a0 = some r) :
  Calls Tryz.prog 142 #[.int .u64 a0] w fun e w' => e = .returned (.bool r) ∧ Below w.heap.size w w' := by
 have HB := Aside0.mk (Below.refl w.heap.size w)
 have H := h; unfold sieve_Prime.f at H
 clear h
 replace H := Option.bind_eq_some_iff.mp H
 obtain ⟨t104, A20, H⟩ := H
 (try dsimp only at H)
 have A2 := Aside0.mk A20
 clear A20
 by_cases c3 : (t104.length : Int) = 1
 ·rw [if_pos c3] at H
  have c3b0 := beq_iff_eq.mpr c3
  have c3b1 := bne_eq_false_iff_eq.mpr c3
  clear c3
  by_cases c4 : 0 < (t104.length : Int)
  ·rw [if_pos c4] at H
   have c4b0 := decide_eq_true c4
   have c4b1 : decide (0 < t104.length) = true := decide_eq_true (by omega)
   clear c4
   obtain rfl := Option.some.inj H
   go_enter Tryz.func142, Tryz.ntmps142
   go_wp2_with (first | (refine gl_ 5 Tryz.func143 #[.int .u64 a0] rfl ?_; (with_reducible refine (sieve_Factor.calls k a0 t104 _ A2.out).mono ?_); rintro e w5 ⟨v105, rfl, ho0, hb⟩; refine ⟨_, rfl, ?_⟩; have n0_ := Aside0.mk (Kd.R_lower ho0 (below_size bel_)); have n1_ := Aside0.mk (below_step bel_ hb); clear HB; have HO106 := n0_; have HB := n1_; clear n0_ n1_; (try clear hb); (try clear hb2); (try clear hk); (try clear hi); (try clear ho0); obtain ⟨Ao6, co6, eo6⟩ := Kd.R_slice HO106.out; subst eo6; have p107 : 0 ≤ (0 : Int) := (by omega); have q107 : 0 < (t104.length : Int) := of_decide_eq_true (by assumption); obtain ⟨ad107, e107, hx107_0, hx107_1⟩ := at_T147 (Kd.R_reads' HO106.out).2.2 0 p107 q107; cases e107; have qi107 : (0 < t104.length) = True := eq_true (by omega); (try rw [show ((0 : Int)).toNat = 0 from rfl] at hx107_0); (try rw [show 0 * 2 = 0 from rfl] at hx107_0); (try rw [Addr.add_zero'] at hx107_0); (try rw [show ((0 : Int)).toNat = 0 from rfl] at hx107_1); (try rw [show 0 * 2 = 0 from rfl] at hx107_1); (try rw [Addr.add_zero'] at hx107_1); replace p107 := eq_true p107; replace q107 := eq_true q107))
   go_ret
   exact ⟨by first | rfl | (simp [errW_none, errW_some] <;> rfl) | (simp [*, errW_none, errW_some] <;> rfl), bel_⟩
  ·rw [if_neg c4] at H
   exact absurd H (by simp)
 ·rw [if_neg c3] at H
  have c3b0 := beq_eq_false_iff_ne.mpr c3
  have c3b1 := bne_iff_ne.mpr c3
  obtain rfl := Option.some.inj H
  go_enter Tryz.func142, Tryz.ntmps142
  go_wp2_with (first | (refine gl_ 5 Tryz.func143 #[.int .u64 a0] rfl ?_; (with_reducible refine (sieve_Factor.calls k a0 t104 _ A2.out).mono ?_); rintro e w7 ⟨v105, rfl, ho0, hb⟩; refine ⟨_, rfl, ?_⟩; have n0_ := Aside0.mk (Kd.R_lower ho0 (below_size bel_)); have n1_ := Aside0.mk (below_step bel_ hb); clear HB; have HO106 := n0_; have HB := n1_; clear n0_ n1_; (try clear hb); (try clear hb2); (try clear hk); (try clear hi); (try clear ho0); obtain ⟨Ao8, co8, eo8⟩ := Kd.R_slice HO106.out; subst eo8))
  go_ret
  exact ⟨by first | rfl | (simp [errW_none, errW_some] <;> rfl) | (simp [*, errW_none, errW_some] <;> rfl), bel_⟩
def sieve_odd.f (k : Nat) (a0 : Int) : Option (Bool) := if a0 > 2 then (if a0 ≤ 65536 then ((sieve_Prime.f k a0).bind fun t108 => (some t108)) else (some false)) else (some false)
set_option maxHeartbeats 8000000 in
set_option maxRecDepth 100000 in
theorem sieve_odd.calls (k : Nat) (a0 : Int) (r : Bool) (w : World) (h : sieve_odd.f k a0 = some r) :
  Calls Tryz.prog 116 #[.int .u64 a0] w fun e w' => e = .returned (.bool r) ∧ Below w.heap.size w w' := by
 have HB := Aside0.mk (Below.refl w.heap.size w)
 have H := h; unfold sieve_odd.f at H
 clear h
 by_cases c2 : a0 > 2
 ·rw [if_pos c2] at H
  have c2b0 := decide_eq_true c2
  clear c2
  by_cases c3 : a0 ≤ 65536
  ·rw [if_pos c3] at H
   have c3b0 := decide_eq_true c3
   clear c3
   replace H := Option.bind_eq_some_iff.mp H
   obtain ⟨t108, A40, H⟩ := H
   (try dsimp only at H)
   have A4 := Aside0.mk A40
   clear A40
   obtain rfl := Option.some.inj H
   go_enter Tryz.func116, Tryz.ntmps116
   go_wp2_with (first | (go_at_call 142; (with_reducible refine (sieve_Prime.calls k a0 t108 _ A4.out).mono ?_); rintro e w5 ⟨rfl, hb⟩; have n0_ := Aside0.mk (below_step bel_ hb); clear HB; have HB := n0_; clear n0_; (try clear hb); (try clear hb2); (try clear hk); (try clear hi)))
   go_ret
   exact ⟨by first | rfl | (simp [errW_none, errW_some] <;> rfl) | (simp [*, errW_none, errW_some] <;> rfl), bel_⟩
  ·rw [if_neg c3] at H
   have c3b0 := decide_eq_false c3
   clear c3
   obtain rfl := Option.some.inj H
   go_enter Tryz.func116, Tryz.ntmps116
   go_wp2
   go_ret
   exact ⟨by first | rfl | (simp [errW_none, errW_some] <;> rfl) | (simp [*, errW_none, errW_some] <;> rfl), bel_⟩
 ·rw [if_neg c2] at H
  have c2b0 := decide_eq_false c2
  clear c2
  obtain rfl := Option.some.inj H
  go_enter Tryz.func116, Tryz.ntmps116
  go_wp2
  go_ret
  exact ⟨by first | rfl | (simp [errW_none, errW_some] <;> rfl) | (simp [*, errW_none, errW_some] <;> rfl), bel_⟩
end Go.Proofs.YtndkmnjbjlfeaaaGreat.XS
end
section
namespace Go.Proofs.YtndkmnjbjlfeaaaGreat.XS
open Go.RowKit Go.Proofs.YtndkmnjbjlfeaaaGreat.Given Go.Proofs.YtndkmnjbjlfeaaaGreatW.PrintWords Go.Proofs.YtndkmnjbjlfeaaaGreatW.PrintLast Go.Proofs.YtndkmnjbjlfeaaaGreatW.PrintMore
attribute [local go_sem] max2_int min2_int max_two min_two max_three min_three max_four min_four   -- for this text's walks alone
set_option linter.unusedVariables false
set_option linter.unusedSimpArgs false
mutual
def bits_Div64.j2 : Nat → Int → Int → Int → Int → Int → Int → Int → Int → Option (Int × Int)
 | 0, _, _, _, _, _, _, _, _ => none
 | k + 1, x2, x8, x9, x10, x11, x13, x14, x15 => if x9 = 0 then (none) else (bits_Div64.l1 k x2 x8 x9 x10 x14 x15 (IntKind.u64.wrap ((IntKind.u64.wrap ((IntKind.u64.wrap ((IntKind.u64.wrap (x11 * 4294967296)) + x13)) - (IntKind.u64.wrap (x15 * x2)))) - (IntKind.u64.wrap ((IntKind.u64.wrap (Int.tdiv (IntKind.u64.wrap ((IntKind.u64.wrap ((IntKind.u64.wrap (x11 * 4294967296)) + x13)) - (IntKind.u64.wrap (x15 * x2)))) x9)) * x9)))) (IntKind.u64.wrap ((IntKind.u64.wrap ((IntKind.u64.wrap (x11 * 4294967296)) + x13)) - (IntKind.u64.wrap (x15 * x2)))) (IntKind.u64.wrap (Int.tdiv (IntKind.u64.wrap ((IntKind.u64.wrap ((IntKind.u64.wrap (x11 * 4294967296)) + x13)) - (IntKind.u64.wrap (x15 * x2)))) x9)))
def bits_Div64.l1 : Nat → Int → Int → Int → Int → Int → Int → Int → Int → Int → Option (Int × Int)
 | 0, _, _, _, _, _, _, _, _, _ => none
 | k + 1, x2, x8, x9, x10, x14, x15, x16, x17, x18 => if x18 ≥ 4294967296 then (bits_Div64.j4 k x2 x8 x9 x10 x14 x15 x16 x17 x18 true) else (bits_Div64.j4 k x2 x8 x9 x10 x14 x15 x16 x17 x18 (decide ((IntKind.u64.wrap (x18 * x10)) > (IntKind.u64.wrap ((IntKind.u64.wrap (4294967296 * x16)) + x14)))))
def bits_Div64.j4 : Nat → Int → Int → Int → Int → Int → Int → Int → Int → Int → Bool → Option (Int × Int)
 | 0, _, _, _, _, _, _, _, _, _, _ => none
 | k + 1, x2, x8, x9, x10, x14, x15, x16, x17, x18, x113 => if x113 = true then (if (IntKind.u64.wrap (x16 + x9)) ≥ 4294967296 then (if 0 ≤ x8 then (some (IntKind.u64.wrap ((IntKind.u64.wrap (x15 * 4294967296)) + (IntKind.u64.wrap (x18 - 1))), shr .u64 (IntKind.u64.wrap ((IntKind.u64.wrap ((IntKind.u64.wrap (x17 * 4294967296)) + x14)) - (IntKind.u64.wrap ((IntKind.u64.wrap (x18 - 1)) * x2)))) x8)) else (none)) else (bits_Div64.l1 k x2 x8 x9 x10 x14 x15 (IntKind.u64.wrap (x16 + x9)) x17 (IntKind.u64.wrap (x18 - 1)))) else (if 0 ≤ x8 then (some (IntKind.u64.wrap ((IntKind.u64.wrap (x15 * 4294967296)) + x18), shr .u64 (IntKind.u64.wrap ((IntKind.u64.wrap ((IntKind.u64.wrap (x17 * 4294967296)) + x14)) - (IntKind.u64.wrap (x18 * x2)))) x8)) else (none))
def bits_Div64.l0 : Nat → Int → Int → Int → Int → Int → Int → Int → Int → Int → Option (Int × Int)
 | 0, _, _, _, _, _, _, _, _, _ => none
 | k + 1, x2, x8, x9, x10, x11, x13, x14, x15, x16 => if x15 ≥ 4294967296 then (bits_Div64.j1 k x2 x8 x9 x10 x11 x13 x14 x15 x16 true) else (bits_Div64.j1 k x2 x8 x9 x10 x11 x13 x14 x15 x16 (decide ((IntKind.u64.wrap (x15 * x10)) > (IntKind.u64.wrap ((IntKind.u64.wrap (4294967296 * x16)) + x13)))))
def bits_Div64.j1 : Nat → Int → Int → Int → Int → Int → Int → Int → Int → Int → Bool → Option (Int × Int)
 | 0, _, _, _, _, _, _, _, _, _, _ => none
 | k + 1, x2, x8, x9, x10, x11, x13, x14, x15, x16, x78 => if x78 = true then (if (IntKind.u64.wrap (x16 + x9)) ≥ 4294967296 then (bits_Div64.j2 k x2 x8 x9 x10 x11 x13 x14 (IntKind.u64.wrap (x15 - 1))) else (bits_Div64.l0 k x2 x8 x9 x10 x11 x13 x14 (IntKind.u64.wrap (x15 - 1)) (IntKind.u64.wrap (x16 + x9)))) else (bits_Div64.j2 k x2 x8 x9 x10 x11 x13 x14 x15)
end
def bits_Div64.f (k : Nat) (a0 : Int) (a1 : Int) (a2 : Int) : Option (Int × Int) := if a2 = 0 then (none) else (if a2 ≤ a0 then (none) else (if a0 = 0 then (some (IntKind.u64.wrap (Int.tdiv a1 a2), Int.tmod a1 a2)) else ((bits_LeadingZeros64.f a2).bind fun t109 => (if 0 ≤ (IntKind.u64.wrap (t109)) then (if 0 ≤ (IntKind.u64.wrap (64 - (IntKind.u64.wrap (t109)))) then (if ((shl .u64 a2 (IntKind.u64.wrap (t109))) / 4294967296) = 0 then (none) else (bits_Div64.l0 k (shl .u64 a2 (IntKind.u64.wrap (t109))) (IntKind.u64.wrap (t109)) ((shl .u64 a2 (IntKind.u64.wrap (t109))) / 4294967296) (Go.bits .and .u64 (shl .u64 a2 (IntKind.u64.wrap (t109))) 4294967295) (Go.bits .or .u64 (shl .u64 a0 (IntKind.u64.wrap (t109))) (shr .u64 a1 (IntKind.u64.wrap (64 - (IntKind.u64.wrap (t109)))))) ((shl .u64 a1 (IntKind.u64.wrap (t109))) / 4294967296) (Go.bits .and .u64 (shl .u64 a1 (IntKind.u64.wrap (t109))) 4294967295) (IntKind.u64.wrap (Int.tdiv (Go.bits .or .u64 (shl .u64 a0 (IntKind.u64.wrap (t109))) (shr .u64 a1 (IntKind.u64.wrap (64 - (IntKind.u64.wrap (t109)))))) ((shl .u64 a2 (IntKind.u64.wrap (t109))) / 4294967296))) (IntKind.u64.wrap ((Go.bits .or .u64 (shl .u64 a0 (IntKind.u64.wrap (t109))) (shr .u64 a1 (IntKind.u64.wrap (64 - (IntKind.u64.wrap (t109)))))) - (IntKind.u64.wrap ((IntKind.u64.wrap (Int.tdiv (Go.bits .or .u64 (shl .u64 a0 (IntKind.u64.wrap (t109))) (shr .u64 a1 (IntKind.u64.wrap (64 - (IntKind.u64.wrap (t109)))))) ((shl .u64 a2 (IntKind.u64.wrap (t109))) / 4294967296))) * ((shl .u64 a2 (IntKind.u64.wrap (t109))) / 4294967296))))))) else (none)) else (none)))))
set_option maxHeartbeats 8000000 in
set_option maxRecDepth 100000 in
theorem bits_Div64.calls (k : Nat) (a0 : Int) (a1 : Int) (a2 : Int) (r1 : Int) (r2 : Int) (w : World) (h : bits_Div64.f k a0 a1 a2 = some (r1, r2)) :
  Calls Tryz.prog 152 #[.int .u64 a0, .int .u64 a1, .int .u64 a2] w fun e w' => e = .returned (.tuple #[.int .u64 r1, .int .u64 r2]) ∧ Drawn0 w w' := by
 have H := h; unfold bits_Div64.f at H
 clear h
 by_cases c4 : a2 = 0
 ·rw [if_pos c4] at H
  exact absurd H (by simp)
 ·rw [if_neg c4] at H
  have c4b0 := beq_eq_false_iff_ne.mpr c4
  have c4b1 := bne_iff_ne.mpr c4
  by_cases c5 : a2 ≤ a0
  ·rw [if_pos c5] at H
   exact absurd H (by simp)
  ·rw [if_neg c5] at H
   have c5b0 := decide_eq_false c5
   clear c5
   by_cases c6 : a0 = 0
   ·rw [if_pos c6] at H
    have c6b0 := beq_iff_eq.mpr c6
    have c6b1 := bne_eq_false_iff_eq.mpr c6
    clear c6
    simp only [Option.some.injEq, Prod.mk.injEq] at H
    obtain ⟨rfl, rfl⟩ := H
    go_enter Tryz.func152, Tryz.ntmps152
    go_wp2
    repeat (go_quiet (fail); try go_wp2)
    go_ret2
    exact ⟨eq_, dw_⟩
   ·rw [if_neg c6] at H
    have c6b0 := beq_eq_false_iff_ne.mpr c6
    have c6b1 := bne_iff_ne.mpr c6
    replace H := Option.bind_eq_some_iff.mp H
    obtain ⟨t109, A70, H⟩ := H
    (try dsimp only at H)
    have A7 := Aside0.mk A70
    clear A70
    obtain ⟨ji8, hji8⟩ : ∃ j_ : Int, (IntKind.u64.wrap (t109)) = j_ := ⟨_, rfl⟩
    (first | rw [hji8] at H | simp only [hji8] at H)
    (try rw [hji8] at A7)
    by_cases c9 : 0 ≤ (ji8)
    ·rw [if_pos c9] at H
     have c9b0 := eq_true c9
     have c9b1 := decide_eq_true c9
     clear c9
     obtain ⟨ji10, hji10⟩ : ∃ j_ : Int, (shl .u64 a2 (ji8)) = j_ := ⟨_, rfl⟩
     (first | rw [hji10] at H | simp only [hji10] at H)
     (try rw [hji10] at A7)
     have hji10_ : (IntKind.u64.wrap (a2 * 2 ^ min (ji8).toNat 64)) = ji10 := hji10
     have hji10z : (ji8) ≤ 64 → (IntKind.u64.wrap (a2 * 2 ^ (ji8).toNat)) = ji10 := shl_small hji10
     have c11b0 := eq_true (of_decide_eq_true (by assumption) : 0 ≤ (ji8))
     obtain ⟨ji12, hji12⟩ : ∃ j_ : Int, (shl .u64 a0 (ji8)) = j_ := ⟨_, rfl⟩
     (first | rw [hji12] at H | simp only [hji12] at H)
     (try rw [hji12] at A7)
     have hji12_ : (IntKind.u64.wrap (a0 * 2 ^ min (ji8).toNat 64)) = ji12 := hji12
     have hji12z : (ji8) ≤ 64 → (IntKind.u64.wrap (a0 * 2 ^ (ji8).toNat)) = ji12 := shl_small hji12
     obtain ⟨ji13, hji13⟩ : ∃ j_ : Int, (IntKind.u64.wrap (64 - (ji8))) = j_ := ⟨_, rfl⟩
     (first | rw [hji13] at H | simp only [hji13] at H)
     (try rw [hji13] at A7)
     by_cases c14 : 0 ≤ (ji13)
     ·rw [if_pos c14] at H
      have c14b0 := eq_true c14
      have c14b1 := decide_eq_true c14
      clear c14
      obtain ⟨ji15, hji15⟩ : ∃ j_ : Int, (shr .u64 a1 (ji13)) = j_ := ⟨_, rfl⟩
      (first | rw [hji15] at H | simp only [hji15] at H)
      (try rw [hji15] at A7)
      have hji15_ : (a1 / 2 ^ min (ji13).toNat 64) = ji15 := hji15
      have hji15z : (ji13) ≤ 64 → (a1 / 2 ^ (ji13).toNat) = ji15 := shr_small hji15
      have c16b0 := eq_true (of_decide_eq_true (by assumption) : 0 ≤ (ji8))
      obtain ⟨ji17, hji17⟩ : ∃ j_ : Int, (shl .u64 a1 (ji8)) = j_ := ⟨_, rfl⟩
      (first | rw [hji17] at H | simp only [hji17] at H)
      (try rw [hji17] at A7)
      have hji17_ : (IntKind.u64.wrap (a1 * 2 ^ min (ji8).toNat 64)) = ji17 := hji17
      have hji17z : (ji8) ≤ 64 → (IntKind.u64.wrap (a1 * 2 ^ (ji8).toNat)) = ji17 := shl_small hji17
      by_cases c18 : ((ji10) / 4294967296) = 0
      ·rw [if_pos c18] at H
       exact absurd H (by simp)
      ·rw [if_neg c18] at H
       have c18b0 := beq_eq_false_iff_ne.mpr c18
       have c18b1 := bne_iff_ne.mpr c18
       have HC19 := Aside0.mk H
       clear H
       go_enter Tryz.func152, Tryz.ntmps152
       go_upto_block 0 with (first | (go_at_call 167; (with_reducible refine (bits_LeadingZeros64.calls a2 t109 _ A7.out).mono ?_); rintro e w' ⟨rfl, ⟨nd, rfl⟩⟩; (try first | exact ⟨rfl, _, World.drewN_drewN _ _ _⟩ | exact ⟨rfl, _, Eq.trans (World.drewN_drewN _ _ _) (congrArg (World.drewN _) (Nat.add_assoc _ _ _))⟩)))
       (try simp only [Act.put, List.setIfInBounds_toArray, List.set_cons_zero, List.set_cons_succ])
       (try simp only [hji8, hji10, hji12, hji13, hji15, hji17])
       go_cut [15] (fun v15 wc => ∃ (kq : Nat) (x15_18 : Int), v15 = .int .u64 x15_18 ∧ Aside0 (bits_Div64.j2 kq ji10 ji8 ((ji10) / 4294967296) (Go.bits .and .u64 (ji10) 4294967295) (Go.bits .or .u64 (ji12) (ji15)) ((ji17) / 4294967296) (Go.bits .and .u64 (ji17) 4294967295) x15_18 = some (r1, r2)) ∧ Aside0 (kq ≤ k) ∧ Drawn0 w wc)
       case first =>
        have H := HC19.out
        clear HC19
        have H' := Aside0.mk H
        clear H
        go_wp2
        (try simp only [hji8, hji10, hji12, hji13, hji15, hji17])
        go_loopg [15, 16] k (fun kq v15 v16 w' => ∃ (x15_1 : Int) (x16_1 : Int), v15 = .int .u64 x15_1 ∧ v16 = .int .u64 x16_1 ∧ Aside0 (bits_Div64.l0 kq ji10 ji8 ((ji10) / 4294967296) (Go.bits .and .u64 (ji10) 4294967295) (Go.bits .or .u64 (ji12) (ji15)) ((ji17) / 4294967296) (Go.bits .and .u64 (ji17) 4294967295) x15_1 x16_1 = some (r1, r2)) ∧ Aside0 (kq ≤ k) ∧ Drawn0 w w')
        case atStart => exact ⟨(IntKind.u64.wrap (Int.tdiv (Go.bits .or .u64 (ji12) (ji15)) ((ji10) / 4294967296))), (IntKind.u64.wrap ((Go.bits .or .u64 (ji12) (ji15)) - (IntKind.u64.wrap ((IntKind.u64.wrap (Int.tdiv (Go.bits .or .u64 (ji12) (ji15)) ((ji10) / 4294967296))) * ((ji10) / 4294967296))))), (by first | rfl | (simp; done) | (simp only [← hji10, ← hji12, ← hji15] <;> (first | rfl | simp)) | (simp [*]; done)), (by first | rfl | (simp; done) | (simp only [← hji10, ← hji12, ← hji15] <;> (first | rfl | simp)) | (simp [*]; done)), H', ⟨Nat.le_refl _⟩, dw_⟩
        case round =>
         clear H'
         obtain ⟨x15_1, x16_1, rfl, rfl, HA, HK1, ⟨m1, rfl⟩⟩ := hrel
         cases gk with
         | zero => exact absurd HA.out (by simp [bits_Div64.l0])
         | succ k1 =>
          have H := HA.out
          clear HA
          simp only [bits_Div64.l0] at H
          have HC20 := Aside0.mk H
          clear H
          go_upto_region 17 with (fail)
          (try simp only [hji8, hji10, hji12, hji13, hji15, hji17])
          go_cut [78] (fun v78 wc => ∃ (kq : Nat) (x78_19 : Bool), v78 = .bool x78_19 ∧ Aside0 (bits_Div64.j1 kq ji10 ji8 ((ji10) / 4294967296) (Go.bits .and .u64 (ji10) 4294967295) (Go.bits .or .u64 (ji12) (ji15)) ((ji17) / 4294967296) (Go.bits .and .u64 (ji17) 4294967295) x15_1 x16_1 x78_19 = some (r1, r2)) ∧ Aside0 (kq ≤ k1) ∧ Drawn0 w wc)
          case first =>
           have H := HC20.out
           clear HC20
           by_cases c21 : x15_1 ≥ 4294967296
           ·rw [if_pos c21] at H
            have c21b0 := decide_eq_true c21
            clear c21
            (first | rw [c21b0] | (simp only [i64_w, i32_w]; rw [c21b0]) | skip)
            have H' := Aside0.mk H
            clear H
            go_wp2
            go_meet
            case rel => exact ⟨_, (true), eq_, H', ⟨by have := HK1.out; first | omega | exact Nat.le_refl _⟩, dw_⟩
           ·rw [if_neg c21] at H
            have c21b0 := decide_eq_false c21
            clear c21
            (first | rw [c21b0] | (simp only [i64_w, i32_w]; rw [c21b0]) | skip)
            have H' := Aside0.mk H
            clear H
            go_wp2
            go_meet
            case rel => exact ⟨_, (decide ((IntKind.u64.wrap (x15_1 * (Go.bits .and .u64 (ji10) 4294967295))) > (IntKind.u64.wrap ((IntKind.u64.wrap (4294967296 * x16_1)) + ((ji17) / 4294967296))))), (by first | rfl | (simp; done) | (simp only [← hji10, ← hji17] <;> (first | rfl | simp)) | (simp [*]; done)), H', ⟨by have := HK1.out; first | omega | exact Nat.le_refl _⟩, dw_⟩
          case rest =>
           clear HC20
           obtain ⟨kq, x78_19, rfl, HA, HJ19, ⟨mc19, rfl⟩⟩ := hcut
           cases kq with
           | zero => exact absurd HA.out (by simp [bits_Div64.j1])
           | succ kj19 =>
            have H := HA.out
            clear HA
            simp only [bits_Div64.j1] at H
            by_cases c22 : x78_19 = true
            ·subst c22
             have H1 := H; rw [if_pos rfl] at H1
             clear H
             have H := H1
             clear H1
             by_cases c23 : (IntKind.u64.wrap (x16_1 + ((ji10) / 4294967296))) ≥ 4294967296
             ·rw [if_pos c23] at H
              have c23b0 := decide_eq_true c23
              clear c23
              have H' := Aside0.mk H
              clear H
              go_wp2
              go_meet
              case rel => exact ⟨_, (IntKind.u64.wrap (x15_1 - 1)), eq_, H', ⟨by have := HK1.out; have := HJ19.out; first | omega | exact Nat.le_refl _⟩, dw_⟩
             ·rw [if_neg c23] at H
              have c23b0 := decide_eq_false c23
              clear c23
              have H' := Aside0.mk H
              clear H
              go_wp2
              go_roundg kj19
              case measure => have := HK1.out; have := HJ19.out; omega
              case rel => exact ⟨(IntKind.u64.wrap (x15_1 - 1)), (IntKind.u64.wrap (x16_1 + ((ji10) / 4294967296))), eq_, (by first | rfl | (simp; done) | (simp only [← hji10] <;> (first | rfl | simp)) | (simp [*]; done)), H', ⟨by have := HK1.out; have := HJ19.out; omega⟩, dw_⟩
            ·replace c22 := Bool.eq_false_iff.mpr c22
             subst c22
             have H1 := H; rw [if_neg (show ¬ (false = true) by decide)] at H1
             clear H
             have H := H1
             clear H1
             have H' := Aside0.mk H
             clear H
             go_wp2
             go_meet
             case rel => exact ⟨_, (x15_1), eq_, H', ⟨by have := HK1.out; have := HJ19.out; first | omega | exact Nat.le_refl _⟩, dw_⟩
       case rest =>
        clear HC19
        obtain ⟨kq, x15_18, rfl, HA, HJ18, ⟨mc18, rfl⟩⟩ := hcut
        cases kq with
        | zero => exact absurd HA.out (by simp [bits_Div64.j2])
        | succ kj18 =>
         have H := HA.out
         clear HA
         simp only [bits_Div64.j2] at H
         by_cases c24 : ((ji10) / 4294967296) = 0
         ·rw [if_pos c24] at H
          exact absurd H (by simp)
         ·rw [if_neg c24] at H
          have c24b0 := beq_eq_false_iff_ne.mpr c24
          have c24b1 := bne_iff_ne.mpr c24
          have H' := Aside0.mk H
          clear H
          go_wp2
          (try simp only [hji8, hji10, hji12, hji13, hji15, hji17])
          go_loopg [16, 18] kj18 (fun kq v16 v18 w' => ∃ (x16_2 : Int) (x18_2 : Int), v16 = .int .u64 x16_2 ∧ v18 = .int .u64 x18_2 ∧ Aside0 (bits_Div64.l1 kq ji10 ji8 ((ji10) / 4294967296) (Go.bits .and .u64 (ji10) 4294967295) (Go.bits .and .u64 (ji17) 4294967295) x15_18 x16_2 (IntKind.u64.wrap ((IntKind.u64.wrap ((IntKind.u64.wrap ((Go.bits .or .u64 (ji12) (ji15)) * 4294967296)) + ((ji17) / 4294967296))) - (IntKind.u64.wrap (x15_18 * ji10)))) x18_2 = some (r1, r2)) ∧ Aside0 (kq ≤ kj18) ∧ Drawn0 w w')
          case atStart => exact ⟨(IntKind.u64.wrap ((IntKind.u64.wrap ((IntKind.u64.wrap ((IntKind.u64.wrap ((Go.bits .or .u64 (ji12) (ji15)) * 4294967296)) + ((ji17) / 4294967296))) - (IntKind.u64.wrap (x15_18 * ji10)))) - (IntKind.u64.wrap ((IntKind.u64.wrap (Int.tdiv (IntKind.u64.wrap ((IntKind.u64.wrap ((IntKind.u64.wrap ((Go.bits .or .u64 (ji12) (ji15)) * 4294967296)) + ((ji17) / 4294967296))) - (IntKind.u64.wrap (x15_18 * ji10)))) ((ji10) / 4294967296))) * ((ji10) / 4294967296))))), (IntKind.u64.wrap (Int.tdiv (IntKind.u64.wrap ((IntKind.u64.wrap ((IntKind.u64.wrap ((Go.bits .or .u64 (ji12) (ji15)) * 4294967296)) + ((ji17) / 4294967296))) - (IntKind.u64.wrap (x15_18 * ji10)))) ((ji10) / 4294967296))), (by first | rfl | (simp; done) | (simp only [← hji10, ← hji12, ← hji15, ← hji17] <;> (first | rfl | simp)) | (simp [*]; done)), (by first | rfl | (simp; done) | (simp only [← hji10, ← hji12, ← hji15, ← hji17] <;> (first | rfl | simp)) | (simp [*]; done)), H', ⟨Nat.le_refl _⟩, dw_⟩
          case round =>
           clear H'
           obtain ⟨x16_2, x18_2, rfl, rfl, HA, HK2, ⟨m2, rfl⟩⟩ := hrel
           cases gk with
           | zero => exact absurd HA.out (by simp [bits_Div64.l1])
           | succ k2 =>
            have H := HA.out
            clear HA
            simp only [bits_Div64.l1] at H
            have HC25 := Aside0.mk H
            clear H
            go_upto_region 24 with (fail)
            (try simp only [hji8, hji10, hji12, hji13, hji15, hji17])
            go_cut [113] (fun v113 wc => ∃ (kq : Nat) (x113_24 : Bool), v113 = .bool x113_24 ∧ Aside0 (bits_Div64.j4 kq ji10 ji8 ((ji10) / 4294967296) (Go.bits .and .u64 (ji10) 4294967295) (Go.bits .and .u64 (ji17) 4294967295) x15_18 x16_2 (IntKind.u64.wrap ((IntKind.u64.wrap ((IntKind.u64.wrap ((Go.bits .or .u64 (ji12) (ji15)) * 4294967296)) + ((ji17) / 4294967296))) - (IntKind.u64.wrap (x15_18 * ji10)))) x18_2 x113_24 = some (r1, r2)) ∧ Aside0 (kq ≤ k2) ∧ Drawn0 w wc)
            case first =>
             have H := HC25.out
             clear HC25
             by_cases c26 : x18_2 ≥ 4294967296
             ·rw [if_pos c26] at H
              have c26b0 := decide_eq_true c26
              clear c26
              (first | rw [c26b0] | (simp only [i64_w, i32_w]; rw [c26b0]) | skip)
              have H' := Aside0.mk H
              clear H
              go_wp2
              go_meet
              case rel => exact ⟨_, (true), eq_, H', ⟨by have := HJ18.out; have := HK2.out; first | omega | exact Nat.le_refl _⟩, dw_⟩
             ·rw [if_neg c26] at H
              have c26b0 := decide_eq_false c26
              clear c26
              (first | rw [c26b0] | (simp only [i64_w, i32_w]; rw [c26b0]) | skip)
              have H' := Aside0.mk H
              clear H
              go_wp2
              go_meet
              case rel => exact ⟨_, (decide ((IntKind.u64.wrap (x18_2 * (Go.bits .and .u64 (ji10) 4294967295))) > (IntKind.u64.wrap ((IntKind.u64.wrap (4294967296 * x16_2)) + (Go.bits .and .u64 (ji17) 4294967295))))), (by first | rfl | (simp; done) | (simp only [← hji10, ← hji17] <;> (first | rfl | simp)) | (simp [*]; done)), H', ⟨by have := HJ18.out; have := HK2.out; first | omega | exact Nat.le_refl _⟩, dw_⟩
            case rest =>
             clear HC25
             obtain ⟨kq, x113_24, rfl, HA, HJ24, ⟨mc24, rfl⟩⟩ := hcut
             cases kq with
             | zero => exact absurd HA.out (by simp [bits_Div64.j4])
             | succ kj24 =>
              have H := HA.out
              clear HA
              simp only [bits_Div64.j4] at H
              by_cases c27 : x113_24 = true
              ·subst c27
               have H1 := H; rw [if_pos rfl] at H1
               clear H
               have H := H1
               clear H1
               by_cases c28 : (IntKind.u64.wrap (x16_2 + ((ji10) / 4294967296))) ≥ 4294967296
               ·rw [if_pos c28] at H
                have c28b0 := decide_eq_true c28
                clear c28
                by_cases c29 : 0 ≤ ji8
                ·rw [if_pos c29] at H
                 have c29b0 := eq_true c29
                 have c29b1 := decide_eq_true c29
                 clear c29
                 obtain ⟨ji30, hji30⟩ : ∃ j_ : Int, (shr .u64 (IntKind.u64.wrap ((IntKind.u64.wrap ((IntKind.u64.wrap ((IntKind.u64.wrap ((IntKind.u64.wrap ((IntKind.u64.wrap ((Go.bits .or .u64 (ji12) (ji15)) * 4294967296)) + ((ji17) / 4294967296))) - (IntKind.u64.wrap (x15_18 * ji10)))) * 4294967296)) + (Go.bits .and .u64 (ji17) 4294967295))) - (IntKind.u64.wrap ((IntKind.u64.wrap (x18_2 - 1)) * ji10)))) ji8) = j_ := ⟨_, rfl⟩
                 (first | rw [hji30] at H | simp only [hji30] at H)
                 have hji30_ : ((IntKind.u64.wrap ((IntKind.u64.wrap ((IntKind.u64.wrap ((IntKind.u64.wrap ((IntKind.u64.wrap ((IntKind.u64.wrap ((Go.bits .or .u64 (ji12) (ji15)) * 4294967296)) + ((ji17) / 4294967296))) - (IntKind.u64.wrap (x15_18 * ji10)))) * 4294967296)) + (Go.bits .and .u64 (ji17) 4294967295))) - (IntKind.u64.wrap ((IntKind.u64.wrap (x18_2 - 1)) * ji10)))) / 2 ^ min ji8.toNat 64) = ji30 := hji30
                 have hji30z : ji8 ≤ 64 → ((IntKind.u64.wrap ((IntKind.u64.wrap ((IntKind.u64.wrap ((IntKind.u64.wrap ((IntKind.u64.wrap ((IntKind.u64.wrap ((Go.bits .or .u64 (ji12) (ji15)) * 4294967296)) + ((ji17) / 4294967296))) - (IntKind.u64.wrap (x15_18 * ji10)))) * 4294967296)) + (Go.bits .and .u64 (ji17) 4294967295))) - (IntKind.u64.wrap ((IntKind.u64.wrap (x18_2 - 1)) * ji10)))) / 2 ^ ji8.toNat) = ji30 := shr_small hji30
                 simp only [Option.some.injEq, Prod.mk.injEq] at H
                 obtain ⟨rfl, rfl⟩ := H
                 go_wp2
                 go_ret2
                 exact ⟨by first | rfl | (simp; done) | (simp only [← hji8, ← hji10, ← hji12, ← hji13, ← hji15, ← hji17, ← hji30] <;> (first | rfl | simp)) | (simp [*]; done), dw_⟩
                ·rw [if_neg c29] at H
                 exact absurd H (by simp)
               ·rw [if_neg c28] at H
                have c28b0 := decide_eq_false c28
                clear c28
                have H' := Aside0.mk H
                clear H
                go_wp2
                go_roundg kj24
                case measure => have := HJ18.out; have := HK2.out; have := HJ24.out; omega
                case rel => exact ⟨(IntKind.u64.wrap (x16_2 + ((ji10) / 4294967296))), (IntKind.u64.wrap (x18_2 - 1)), (by first | rfl | (simp; done) | (simp only [← hji10] <;> (first | rfl | simp)) | (simp [*]; done)), eq_, H', ⟨by have := HJ18.out; have := HK2.out; have := HJ24.out; omega⟩, dw_⟩
              ·replace c27 := Bool.eq_false_iff.mpr c27
               subst c27
               have H1 := H; rw [if_neg (show ¬ (false = true) by decide)] at H1
               clear H
               have H := H1
               clear H1
               by_cases c31 : 0 ≤ ji8
               ·rw [if_pos c31] at H
                have c31b0 := eq_true c31
                have c31b1 := decide_eq_true c31
                clear c31
                obtain ⟨ji32, hji32⟩ : ∃ j_ : Int, (shr .u64 (IntKind.u64.wrap ((IntKind.u64.wrap ((IntKind.u64.wrap ((IntKind.u64.wrap ((IntKind.u64.wrap ((IntKind.u64.wrap ((Go.bits .or .u64 (ji12) (ji15)) * 4294967296)) + ((ji17) / 4294967296))) - (IntKind.u64.wrap (x15_18 * ji10)))) * 4294967296)) + (Go.bits .and .u64 (ji17) 4294967295))) - (IntKind.u64.wrap (x18_2 * ji10)))) ji8) = j_ := ⟨_, rfl⟩
                (first | rw [hji32] at H | simp only [hji32] at H)
                have hji32_ : ((IntKind.u64.wrap ((IntKind.u64.wrap ((IntKind.u64.wrap ((IntKind.u64.wrap ((IntKind.u64.wrap ((IntKind.u64.wrap ((Go.bits .or .u64 (ji12) (ji15)) * 4294967296)) + ((ji17) / 4294967296))) - (IntKind.u64.wrap (x15_18 * ji10)))) * 4294967296)) + (Go.bits .and .u64 (ji17) 4294967295))) - (IntKind.u64.wrap (x18_2 * ji10)))) / 2 ^ min ji8.toNat 64) = ji32 := hji32
                have hji32z : ji8 ≤ 64 → ((IntKind.u64.wrap ((IntKind.u64.wrap ((IntKind.u64.wrap ((IntKind.u64.wrap ((IntKind.u64.wrap ((IntKind.u64.wrap ((Go.bits .or .u64 (ji12) (ji15)) * 4294967296)) + ((ji17) / 4294967296))) - (IntKind.u64.wrap (x15_18 * ji10)))) * 4294967296)) + (Go.bits .and .u64 (ji17) 4294967295))) - (IntKind.u64.wrap (x18_2 * ji10)))) / 2 ^ ji8.toNat) = ji32 := shr_small hji32
                simp only [Option.some.injEq, Prod.mk.injEq] at H
                obtain ⟨rfl, rfl⟩ := H
                go_wp2
                go_ret2
                exact ⟨by first | rfl | (simp; done) | (simp only [← hji8, ← hji10, ← hji12, ← hji13, ← hji15, ← hji17, ← hji32] <;> (first | rfl | simp)) | (simp [*]; done), dw_⟩
               ·rw [if_neg c31] at H
                exact absurd H (by simp)
     ·rw [if_neg c14] at H
      exact absurd H (by simp)
    ·rw [if_neg c9] at H
     exact absurd H (by simp)
def bits_Rem64.f (k : Nat) (a0 : Int) (a1 : Int) (a2 : Int) : Option (Int) := if a2 = 0 then (none) else ((bits_Div64.f k (Int.tmod a0 a2) a1 a2).bind fun bt110 => (some bt110.2))
set_option maxHeartbeats 8000000 in
set_option maxRecDepth 100000 in
theorem bits_Rem64.calls (k : Nat) (a0 : Int) (a1 : Int) (a2 : Int) (r : Int) (w : World) (h : bits_Rem64.f k a0 a1 a2 = some r) :
  Calls Tryz.prog 126 #[.int .u64 a0, .int .u64 a1, .int .u64 a2] w fun e w' => e = .returned (.int .u64 r) ∧ Drawn0 w w' := by
 have H := h; unfold bits_Rem64.f at H
 clear h
 by_cases c4 : a2 = 0
 ·rw [if_pos c4] at H
  exact absurd H (by simp)
 ·rw [if_neg c4] at H
  have c4b0 := beq_eq_false_iff_ne.mpr c4
  have c4b1 := bne_iff_ne.mpr c4
  replace H := Option.bind_eq_some_iff.mp H
  obtain ⟨⟨t110, t111⟩, A50, H⟩ := H
  (try dsimp only at H)
  have A5 := Aside0.mk A50
  clear A50
  obtain rfl := Option.some.inj H
  go_enter Tryz.func126, Tryz.ntmps126
  go_wp2_with (first | (refine gl_ 15 Tryz.func152 #[.int .u64 (Int.tmod a0 a2), .int .u64 a1, .int .u64 a2] rfl ?_; (with_reducible refine (bits_Div64.calls k (Int.tmod a0 a2) a1 a2 t110 t111 _ A5.out).mono ?_); rintro e w' ⟨rfl, ⟨nd, rfl⟩⟩; refine ⟨_, rfl, ?_⟩))
  go_ret
  exact ⟨eq_, dw_⟩
def modular_Mul.f (k : Nat) (a0 : Int) (a1 : Int) (a2 : Int) : Option (Int) := if a2 = 0 then (some 0) else ((bits_Mul64.f a0 a1).bind fun bt112 => ((bits_Rem64.f k bt112.1 bt112.2 a2).bind fun t114 => (some t114)))
set_option maxHeartbeats 8000000 in
set_option maxRecDepth 100000 in
theorem modular_Mul.calls (k : Nat) (a0 : Int) (a1 : Int) (a2 : Int) (r : Int) (w : World) (h : modular_Mul.f k a0 a1 a2 = some r) :
  Calls Tryz.prog 129 #[.int .u64 a0, .int .u64 a1, .int .u64 a2] w fun e w' => e = .returned (.int .u64 r) ∧ Drawn0 w w' := by
 have H := h; unfold modular_Mul.f at H
 clear h
 by_cases c4 : a2 = 0
 ·rw [if_pos c4] at H
  have c4b0 := beq_iff_eq.mpr c4
  have c4b1 := bne_eq_false_iff_eq.mpr c4
  clear c4
  obtain rfl := Option.some.inj H
  go_enter Tryz.func129, Tryz.ntmps129
  go_wp2
  go_ret
  exact ⟨eq_, dw_⟩
 ·rw [if_neg c4] at H
  have c4b0 := beq_eq_false_iff_ne.mpr c4
  have c4b1 := bne_iff_ne.mpr c4
  replace H := Option.bind_eq_some_iff.mp H
  obtain ⟨⟨t112, t113⟩, A50, H⟩ := H
  (try dsimp only at H)
  have A5 := Aside0.mk A50
  clear A50
  replace H := Option.bind_eq_some_iff.mp H
  obtain ⟨t114, A60, H⟩ := H
  (try dsimp only at H)
  have A6 := Aside0.mk A60
  clear A60
  obtain rfl := Option.some.inj H
  go_enter Tryz.func129, Tryz.ntmps129
  go_wp2_with (first | (refine gl_ 14 Tryz.func125 #[.int .u64 a0, .int .u64 a1] rfl ?_; (with_reducible refine (bits_Mul64.calls a0 a1 t112 t113 _ A5.out).mono ?_); rintro e w' ⟨rfl, ⟨nd, rfl⟩⟩; refine ⟨_, rfl, ?_⟩) | (refine gl_ 20 Tryz.func126 #[.int .u64 t112, .int .u64 t113, .int .u64 a2] rfl ?_; (with_reducible refine (bits_Rem64.calls k t112 t113 a2 t114 _ A6.out).mono ?_); rintro e w' ⟨rfl, ⟨nd, rfl⟩⟩; refine ⟨_, rfl, ?_⟩))
  go_ret
  exact ⟨eq_, dw_⟩
def modular_Pow.l0 : Nat → Int → Int → Int → Int → Option (Int)
 | 0, _, _, _, _ => none
 | k + 1, x0, x1, x2, x7 => if x1 > 0 then (if (Go.bits .and .u64 x1 1) = 1 then ((modular_Mul.f k x7 x0 x2).bind fun t115 => ((modular_Mul.f k x0 x0 x2).bind fun t116 => (modular_Pow.l0 k t116 (x1 / 2) x2 t115))) else ((modular_Mul.f k x0 x0 x2).bind fun t117 => (modular_Pow.l0 k t117 (x1 / 2) x2 x7))) else (some x7)
def modular_Pow.f (k : Nat) (a0 : Int) (a1 : Int) (a2 : Int) : Option (Int) := if a2 = 0 then (some 0) else (modular_Pow.l0 k a0 a1 a2 ((1 : Int) % a2))
set_option maxHeartbeats 8000000 in
set_option maxRecDepth 100000 in
theorem modular_Pow.calls (k : Nat) (a0 : Int) (a1 : Int) (a2 : Int) (r : Int) (w : World) (h : modular_Pow.f k a0 a1 a2 = some r) :
  Calls Tryz.prog 162 #[.int .u64 a0, .int .u64 a1, .int .u64 a2] w fun e w' => e = .returned (.int .u64 r) ∧ Drawn0 w w' := by
 have H := h; unfold modular_Pow.f at H
 clear h
 by_cases c4 : a2 = 0
 ·rw [if_pos c4] at H
  have c4b0 := beq_iff_eq.mpr c4
  have c4b1 := bne_eq_false_iff_eq.mpr c4
  clear c4
  obtain rfl := Option.some.inj H
  go_enter Tryz.func162, Tryz.ntmps162
  go_wp2
  go_ret
  exact ⟨eq_, dw_⟩
 ·rw [if_neg c4] at H
  have c4b0 := beq_eq_false_iff_ne.mpr c4
  have c4b1 := bne_iff_ne.mpr c4
  have H' := Aside0.mk H
  clear H
  go_enter Tryz.func162, Tryz.ntmps162
  go_wp2
  go_loopg [0, 1, 7] k (fun kq v0 v1 v7 w' => ∃ (x0_1 : Int) (x1_1 : Int) (x7_1 : Int), v0 = .int .u64 x0_1 ∧ v1 = .int .u64 x1_1 ∧ v7 = .int .u64 x7_1 ∧ Aside0 (modular_Pow.l0 kq x0_1 x1_1 a2 x7_1 = some r) ∧ Aside0 (kq ≤ k) ∧ Drawn0 w w')
  case atStart => exact ⟨(a0), (a1), ((1 : Int) % a2), eq_, eq_, eq_, H', ⟨Nat.le_refl _⟩, dw_⟩
  case round =>
   clear H'
   obtain ⟨x0_1, x1_1, x7_1, rfl, rfl, rfl, HA, HK1, ⟨m1, rfl⟩⟩ := hrel
   cases gk with
   | zero => exact absurd HA.out (by simp [modular_Pow.l0])
   | succ k1 =>
    have H := HA.out
    clear HA
    simp only [modular_Pow.l0] at H
    by_cases c5 : x1_1 > 0
    ·rw [if_pos c5] at H
     have c5b0 := decide_eq_true c5
     clear c5
     by_cases c6 : (Go.bits .and .u64 x1_1 1) = 1
     ·rw [if_pos c6] at H
      have c6b0 := beq_iff_eq.mpr c6
      have c6b1 := bne_eq_false_iff_eq.mpr c6
      clear c6
      replace H := Option.bind_eq_some_iff.mp H
      obtain ⟨t115, A70, H⟩ := H
      (try dsimp only at H)
      have A7 := Aside0.mk A70
      clear A70
      replace H := Option.bind_eq_some_iff.mp H
      obtain ⟨t116, A80, H⟩ := H
      (try dsimp only at H)
      have A8 := Aside0.mk A80
      clear A80
      have H' := Aside0.mk H
      clear H
      go_wp2_with (first | (refine gl_ 22 Tryz.func129 #[.int .u64 x7_1, .int .u64 x0_1, .int .u64 a2] rfl ?_; (with_reducible refine (modular_Mul.calls k1 x7_1 x0_1 a2 t115 _ A7.out).mono ?_); rintro e w' ⟨rfl, ⟨nd, rfl⟩⟩; refine ⟨_, rfl, ?_⟩) | (refine gl_ 26 Tryz.func129 #[.int .u64 x0_1, .int .u64 x0_1, .int .u64 a2] rfl ?_; (with_reducible refine (modular_Mul.calls k1 x0_1 x0_1 a2 t116 _ A8.out).mono ?_); rintro e w' ⟨rfl, ⟨nd, rfl⟩⟩; refine ⟨_, rfl, ?_⟩))
      go_roundg k1
      case measure => have := HK1.out; omega
      case rel => exact ⟨(t116), (x1_1 / 2), (t115), eq_, eq_, eq_, H', ⟨by have := HK1.out; omega⟩, dw_⟩
     ·rw [if_neg c6] at H
      have c6b0 := beq_eq_false_iff_ne.mpr c6
      have c6b1 := bne_iff_ne.mpr c6
      replace H := Option.bind_eq_some_iff.mp H
      obtain ⟨t117, A90, H⟩ := H
      (try dsimp only at H)
      have A9 := Aside0.mk A90
      clear A90
      have H' := Aside0.mk H
      clear H
      go_wp2_with (first | (refine gl_ 26 Tryz.func129 #[.int .u64 x0_1, .int .u64 x0_1, .int .u64 a2] rfl ?_; (with_reducible refine (modular_Mul.calls k1 x0_1 x0_1 a2 t117 _ A9.out).mono ?_); rintro e w' ⟨rfl, ⟨nd, rfl⟩⟩; refine ⟨_, rfl, ?_⟩))
      go_roundg k1
      case measure => have := HK1.out; omega
      case rel => exact ⟨(t117), (x1_1 / 2), (x7_1), eq_, eq_, eq_, H', ⟨by have := HK1.out; omega⟩, dw_⟩
    ·rw [if_neg c5] at H
     have c5b0 := decide_eq_false c5
     clear c5
     obtain rfl := Option.some.inj H
     go_wp2
     go_ret
     exact ⟨eq_, dw_⟩
def modular_Add.f (k : Nat) (a0 : Int) (a1 : Int) (a2 : Int) : Option (Int) := if a2 = 0 then (some 0) else ((bits_Add64.f (Int.tmod a0 a2) (Int.tmod a1 a2) 0).bind fun bt118 => ((bits_Rem64.f k bt118.2 bt118.1 a2).bind fun t120 => (some t120)))
set_option maxHeartbeats 8000000 in
set_option maxRecDepth 100000 in
theorem modular_Add.calls (k : Nat) (a0 : Int) (a1 : Int) (a2 : Int) (r : Int) (w : World) (h : modular_Add.f k a0 a1 a2 = some r) :
  Calls Tryz.prog 153 #[.int .u64 a0, .int .u64 a1, .int .u64 a2] w fun e w' => e = .returned (.int .u64 r) ∧ Drawn0 w w' := by
 have H := h; unfold modular_Add.f at H
 clear h
 by_cases c4 : a2 = 0
 ·rw [if_pos c4] at H
  have c4b0 := beq_iff_eq.mpr c4
  have c4b1 := bne_eq_false_iff_eq.mpr c4
  clear c4
  obtain rfl := Option.some.inj H
  go_enter Tryz.func153, Tryz.ntmps153
  go_wp2
  go_ret
  exact ⟨eq_, dw_⟩
 ·rw [if_neg c4] at H
  have c4b0 := beq_eq_false_iff_ne.mpr c4
  have c4b1 := bne_iff_ne.mpr c4
  replace H := Option.bind_eq_some_iff.mp H
  obtain ⟨⟨t118, t119⟩, A50, H⟩ := H
  (try dsimp only at H)
  have A5 := Aside0.mk A50
  clear A50
  replace H := Option.bind_eq_some_iff.mp H
  obtain ⟨t120, A60, H⟩ := H
  (try dsimp only at H)
  have A6 := Aside0.mk A60
  clear A60
  obtain rfl := Option.some.inj H
  have XA5 := fun W => bits_Add64.run (Int.tmod a0 a2) (Int.tmod a1 a2) 0 t118 t119 W A5.out
  go_enter Tryz.func153, Tryz.ntmps153
  go_wp2_with (first | (go_at_call 126; (with_reducible refine (bits_Rem64.calls k t119 t118 a2 t120 _ A6.out).mono ?_); rintro e w' ⟨rfl, ⟨nd, rfl⟩⟩; (try first | exact ⟨rfl, _, World.drewN_drewN _ _ _⟩ | exact ⟨rfl, _, Eq.trans (World.drewN_drewN _ _ _) (congrArg (World.drewN _) (Nat.add_assoc _ _ _))⟩)))
  repeat (go_quiet (first | (go_at_call 126; (with_reducible refine (bits_Rem64.calls k t119 t118 a2 t120 _ A6.out).mono ?_); rintro e w' ⟨rfl, ⟨nd, rfl⟩⟩; (try first | exact ⟨rfl, _, World.drewN_drewN _ _ _⟩ | exact ⟨rfl, _, Eq.trans (World.drewN_drewN _ _ _) (congrArg (World.drewN _) (Nat.add_assoc _ _ _))⟩))); try go_wp2_with (first | (go_at_call 126; (with_reducible refine (bits_Rem64.calls k t119 t118 a2 t120 _ A6.out).mono ?_); rintro e w' ⟨rfl, ⟨nd, rfl⟩⟩; (try first | exact ⟨rfl, _, World.drewN_drewN _ _ _⟩ | exact ⟨rfl, _, Eq.trans (World.drewN_drewN _ _ _) (congrArg (World.drewN _) (Nat.add_assoc _ _ _))⟩))))
  go_ret
  exact ⟨eq_, dw_⟩
end Go.Proofs.YtndkmnjbjlfeaaaGreat.XS
end
section
namespace Go.Proofs.YtndkmnjbjlfeaaaGreat.XS
open Go.RowKit Go.Proofs.YtndkmnjbjlfeaaaGreat.Given Go.Proofs.YtndkmnjbjlfeaaaGreatW.PrintWords Go.Proofs.YtndkmnjbjlfeaaaGreatW.PrintLast Go.Proofs.YtndkmnjbjlfeaaaGreatW.PrintMore
attribute [local go_sem] max2_int min2_int max_two min_two max_three min_three max_four min_four   -- for this text's walks alone
set_option linter.unusedVariables false
set_option linter.unusedSimpArgs false
def modular_Neg.j0 : Nat → Int → Int → Bool → Option (Int)
 | 0, _, _, _ => none
 | k + 1, x0, x1, x12 => if x12 = true then (some 0) else (if x1 = 0 then (none) else (some (IntKind.u64.wrap (x1 - (Int.tmod x0 x1)))))
def modular_Neg.f (k : Nat) (a0 : Int) (a1 : Int) : Option (Int) := if a1 = 0 then (modular_Neg.j0 k a0 a1 true) else (modular_Neg.j0 k a0 a1 ((Int.tmod a0 a1) == 0))
set_option maxHeartbeats 8000000 in
set_option maxRecDepth 100000 in
theorem modular_Neg.calls (k : Nat) (a0 : Int) (a1 : Int) (r : Int) (w : World) (h : modular_Neg.f k a0 a1 = some r) :
  Calls Tryz.prog 154 #[.int .u64 a0, .int .u64 a1] w fun e w' => e = .returned (.int .u64 r) ∧ Drawn0 w w' := by
 have H := h; unfold modular_Neg.f at H
 clear h
 have HC3 := Aside0.mk H
 clear H
 go_enter Tryz.func154, Tryz.ntmps154
 go_upto_region 1 with (fail)
 go_cut [12] (fun v12 wc => ∃ (kq : Nat) (x12_2 : Bool), v12 = .bool x12_2 ∧ Aside0 (modular_Neg.j0 kq a0 a1 x12_2 = some r) ∧ Aside0 (kq ≤ k) ∧ Drawn0 w wc)
 case first =>
  have H := HC3.out
  clear HC3
  by_cases c4 : a1 = 0
  ·rw [if_pos c4] at H
   have c4b0 := beq_iff_eq.mpr c4
   have c4b1 := bne_eq_false_iff_eq.mpr c4
   clear c4
   (first | rw [c4b0] | (simp only [i64_w, i32_w]; rw [c4b0]) | skip)
   have H' := Aside0.mk H
   clear H
   go_wp2
   go_meet
   case rel => exact ⟨_, (true), eq_, H', ⟨by first | omega | exact Nat.le_refl _⟩, dw_⟩
  ·rw [if_neg c4] at H
   have c4b0 := beq_eq_false_iff_ne.mpr c4
   have c4b1 := bne_iff_ne.mpr c4
   (first | rw [c4b0] | (simp only [i64_w, i32_w]; rw [c4b0]) | skip)
   have H' := Aside0.mk H
   clear H
   go_wp2
   go_meet
   case rel => exact ⟨_, (((Int.tmod a0 a1) == 0)), eq_, H', ⟨by first | omega | exact Nat.le_refl _⟩, dw_⟩
 case rest =>
  clear HC3
  obtain ⟨kq, x12_2, rfl, HA, HJ2, ⟨mc2, rfl⟩⟩ := hcut
  cases kq with
  | zero => exact absurd HA.out (by simp [modular_Neg.j0])
  | succ kj2 =>
   have H := HA.out
   clear HA
   simp only [modular_Neg.j0] at H
   by_cases c5 : x12_2 = true
   ·subst c5
    have H1 := H; rw [if_pos rfl] at H1
    clear H
    have H := H1
    clear H1
    obtain rfl := Option.some.inj H
    go_wp2
    go_ret
    exact ⟨eq_, dw_⟩
   ·replace c5 := Bool.eq_false_iff.mpr c5
    subst c5
    have H1 := H; rw [if_neg (show ¬ (false = true) by decide)] at H1
    clear H
    have H := H1
    clear H1
    by_cases c6 : a1 = 0
    ·rw [if_pos c6] at H
     exact absurd H (by simp)
    ·rw [if_neg c6] at H
     have c6b0 := beq_eq_false_iff_ne.mpr c6
     have c6b1 := bne_iff_ne.mpr c6
     obtain rfl := Option.some.inj H
     go_wp2
     go_ret
     exact ⟨eq_, dw_⟩
def modular_Sub.f (k : Nat) (a0 : Int) (a1 : Int) (a2 : Int) : Option (Int) := (modular_Neg.f k a1 a2).bind fun t121 => ((modular_Add.f k a0 t121 a2).bind fun t122 => (some t122))
set_option maxHeartbeats 8000000 in
set_option maxRecDepth 100000 in
theorem modular_Sub.calls (k : Nat) (a0 : Int) (a1 : Int) (a2 : Int) (r : Int) (w : World) (h : modular_Sub.f k a0 a1 a2 = some r) :
  Calls Tryz.prog 128 #[.int .u64 a0, .int .u64 a1, .int .u64 a2] w fun e w' => e = .returned (.int .u64 r) ∧ Drawn0 w w' := by
 have H := h; unfold modular_Sub.f at H
 clear h
 replace H := Option.bind_eq_some_iff.mp H
 obtain ⟨t121, A40, H⟩ := H
 (try dsimp only at H)
 have A4 := Aside0.mk A40
 clear A40
 replace H := Option.bind_eq_some_iff.mp H
 obtain ⟨t122, A50, H⟩ := H
 (try dsimp only at H)
 have A5 := Aside0.mk A50
 clear A50
 obtain rfl := Option.some.inj H
 go_enter Tryz.func128, Tryz.ntmps128
 go_wp2_with (first | (refine gl_ 10 Tryz.func154 #[.int .u64 a1, .int .u64 a2] rfl ?_; (with_reducible refine (modular_Neg.calls k a1 a2 t121 _ A4.out).mono ?_); rintro e w' ⟨rfl, ⟨nd, rfl⟩⟩; refine ⟨_, rfl, ?_⟩) | (refine gl_ 12 Tryz.func153 #[.int .u64 a0, .int .u64 t121, .int .u64 a2] rfl ?_; (with_reducible refine (modular_Add.calls k a0 t121 a2 t122 _ A5.out).mono ?_); rintro e w' ⟨rfl, ⟨nd, rfl⟩⟩; refine ⟨_, rfl, ?_⟩))
 go_ret
 exact ⟨eq_, dw_⟩
def modular_Inv.l0 : Nat → Int → Int → Int → Int → Int → Option (Int × Bool)
 | 0, _, _, _, _, _ => none
 | k + 1, x1, x6, x7, x8, x9 => if x7 > 0 then (if x7 = 0 then (none) else ((modular_Mul.f k (IntKind.u64.wrap (Int.tdiv x6 x7)) x9 x1).bind fun t123 => ((modular_Sub.f k x8 t123 x1).bind fun t124 => (modular_Inv.l0 k x1 x7 (IntKind.u64.wrap (x6 - (IntKind.u64.wrap ((IntKind.u64.wrap (Int.tdiv x6 x7)) * x7)))) x9 t124)))) else (if x6 = 1 then (some (x8, true)) else (some (0, false)))
def modular_Inv.f (k : Nat) (a0 : Int) (a1 : Int) : Option (Int × Bool) := if a1 < 2 then (some (0, false)) else (if a1 = 0 then (none) else (modular_Inv.l0 k a1 a1 (Int.tmod a0 a1) 0 1))
set_option maxHeartbeats 8000000 in
set_option maxRecDepth 100000 in
theorem modular_Inv.calls (k : Nat) (a0 : Int) (a1 : Int) (r1 : Int) (r2 : Bool) (w : World) (h : modular_Inv.f k a0 a1 = some (r1, r2)) :
  Calls Tryz.prog 99 #[.int .u64 a0, .int .u64 a1] w fun e w' => e = .returned (.tuple #[.int .u64 r1, .bool r2]) ∧ Drawn0 w w' := by
 have H := h; unfold modular_Inv.f at H
 clear h
 by_cases c3 : a1 < 2
 ·rw [if_pos c3] at H
  have c3b0 := decide_eq_true c3
  clear c3
  simp only [Option.some.injEq, Prod.mk.injEq] at H
  obtain ⟨rfl, rfl⟩ := H
  go_enter Tryz.func99, Tryz.ntmps99
  go_wp2
  go_ret2
  exact ⟨eq_, dw_⟩
 ·rw [if_neg c3] at H
  have c3b0 := decide_eq_false c3
  clear c3
  by_cases c4 : a1 = 0
  ·rw [if_pos c4] at H
   exact absurd H (by simp)
  ·rw [if_neg c4] at H
   have c4b0 := beq_eq_false_iff_ne.mpr c4
   have c4b1 := bne_iff_ne.mpr c4
   have H' := Aside0.mk H
   clear H
   go_enter Tryz.func99, Tryz.ntmps99
   go_wp2
   repeat (go_quiet (fail); try go_wp2)
   go_loopg [6, 7, 8, 9] k (fun kq v6 v7 v8 v9 w' => ∃ (x6_1 : Int) (x7_1 : Int) (x8_1 : Int) (x9_1 : Int), v6 = .int .u64 x6_1 ∧ v7 = .int .u64 x7_1 ∧ v8 = .int .u64 x8_1 ∧ v9 = .int .u64 x9_1 ∧ Aside0 (modular_Inv.l0 kq a1 x6_1 x7_1 x8_1 x9_1 = some (r1, r2)) ∧ Aside0 (kq ≤ k) ∧ Drawn0 w w')
   case atStart => exact ⟨(a1), (Int.tmod a0 a1), (0), (1), eq_, eq_, eq_, eq_, H', ⟨Nat.le_refl _⟩, dw_⟩
   case round =>
    clear H'
    obtain ⟨x6_1, x7_1, x8_1, x9_1, rfl, rfl, rfl, rfl, HA, HK1, ⟨m1, rfl⟩⟩ := hrel
    cases gk with
    | zero => exact absurd HA.out (by simp [modular_Inv.l0])
    | succ k1 =>
     have H := HA.out
     clear HA
     simp only [modular_Inv.l0] at H
     by_cases c5 : x7_1 > 0
     ·rw [if_pos c5] at H
      have c5b0 := decide_eq_true c5
      clear c5
      by_cases c6 : x7_1 = 0
      ·rw [if_pos c6] at H
       exact absurd H (by simp)
      ·rw [if_neg c6] at H
       have c6b0 := beq_eq_false_iff_ne.mpr c6
       have c6b1 := bne_iff_ne.mpr c6
       replace H := Option.bind_eq_some_iff.mp H
       obtain ⟨t123, A70, H⟩ := H
       (try dsimp only at H)
       have A7 := Aside0.mk A70
       clear A70
       replace H := Option.bind_eq_some_iff.mp H
       obtain ⟨t124, A80, H⟩ := H
       (try dsimp only at H)
       have A8 := Aside0.mk A80
       clear A80
       have H' := Aside0.mk H
       clear H
       go_wp2_with (first | (go_at_call 129; (with_reducible refine (modular_Mul.calls k1 (IntKind.u64.wrap (Int.tdiv x6_1 x7_1)) x9_1 a1 t123 _ A7.out).mono ?_); rintro e w' ⟨rfl, ⟨nd, rfl⟩⟩; (try first | exact ⟨rfl, _, World.drewN_drewN _ _ _⟩ | exact ⟨rfl, _, Eq.trans (World.drewN_drewN _ _ _) (congrArg (World.drewN _) (Nat.add_assoc _ _ _))⟩)) | (go_at_call 128; (with_reducible refine (modular_Sub.calls k1 x8_1 t123 a1 t124 _ A8.out).mono ?_); rintro e w' ⟨rfl, ⟨nd, rfl⟩⟩; (try first | exact ⟨rfl, _, World.drewN_drewN _ _ _⟩ | exact ⟨rfl, _, Eq.trans (World.drewN_drewN _ _ _) (congrArg (World.drewN _) (Nat.add_assoc _ _ _))⟩)))
       go_roundg k1
       case measure => have := HK1.out; omega
       case rel => exact ⟨(x7_1), (IntKind.u64.wrap (x6_1 - (IntKind.u64.wrap ((IntKind.u64.wrap (Int.tdiv x6_1 x7_1)) * x7_1)))), (x9_1), (t124), eq_, eq_, eq_, eq_, H', ⟨by have := HK1.out; omega⟩, dw_⟩
     ·rw [if_neg c5] at H
      have c5b0 := decide_eq_false c5
      clear c5
      by_cases c9 : x6_1 = 1
      ·rw [if_pos c9] at H
       have c9b0 := beq_iff_eq.mpr c9
       have c9b1 := bne_eq_false_iff_eq.mpr c9
       clear c9
       simp only [Option.some.injEq, Prod.mk.injEq] at H
       obtain ⟨rfl, rfl⟩ := H
       go_wp2
       go_ret2
       exact ⟨eq_, dw_⟩
      ·rw [if_neg c9] at H
       have c9b0 := beq_eq_false_iff_ne.mpr c9
       have c9b1 := bne_iff_ne.mpr c9
       simp only [Option.some.injEq, Prod.mk.injEq] at H
       obtain ⟨rfl, rfl⟩ := H
       go_wp2
       go_ret2
       exact ⟨eq_, dw_⟩
mutual
def epicycleref05_Prime.j0 : Nat → Int → Bool → Option (Bool)
 | 0, _, _ => none
 | k + 1, x0, x9 => if x9 = true then (some false) else (epicycleref05_Prime.l0 k x0 2)
def epicycleref05_Prime.l0 : Nat → Int → Int → Option (Bool)
 | 0, _, _ => none
 | k + 1, x0, x3 => if (IntKind.u64.wrap (x3 * x3)) ≤ x0 then (if x3 = 0 then (none) else (if (Int.tmod x0 x3) = 0 then (some false) else (epicycleref05_Prime.l0 k x0 (IntKind.u64.wrap (x3 + 1))))) else (some true)
end
def epicycleref05_Prime.f (k : Nat) (a0 : Int) : Option (Bool) := if a0 < 2 then (epicycleref05_Prime.j0 k a0 true) else (epicycleref05_Prime.j0 k a0 (decide (a0 > 4294967296)))
theorem epicycleref05_Prime.mono_l : ∀ k, (∀ y0 y1, LeO (epicycleref05_Prime.j0 k y0 y1) (epicycleref05_Prime.j0 (k + 1) y0 y1)) ∧ (∀ y0 y1, LeO (epicycleref05_Prime.l0 k y0 y1) (epicycleref05_Prime.l0 (k + 1) y0 y1))
 | 0 => ⟨fun _ _ r h => by simp [epicycleref05_Prime.j0] at h, fun _ _ r h => by simp [epicycleref05_Prime.l0] at h⟩
 | k + 1 => by
  obtain ⟨ih0, ih1⟩ := epicycleref05_Prime.mono_l k
  refine ⟨?_, ?_⟩
  ·intro y0 y1
   unfold epicycleref05_Prime.j0
   repeat' first
   | (with_reducible exact ih0 _ _)
   | (with_reducible exact ih1 _ _)
   | (with_reducible exact LeO.refl _)
   | (with_reducible exact LeO.none _)
   | (with_reducible refine LeO.ite ?_ ?_)
   | (with_reducible refine LeO.bind ?_ (fun _ => ?_))
  ·intro y0 y1
   unfold epicycleref05_Prime.l0
   repeat' first
   | (with_reducible exact ih0 _ _)
   | (with_reducible exact ih1 _ _)
   | (with_reducible exact LeO.refl _)
   | (with_reducible exact LeO.none _)
   | (with_reducible refine LeO.ite ?_ ?_)
   | (with_reducible refine LeO.bind ?_ (fun _ => ?_))
theorem epicycleref05_Prime.mono : ∀ a0 k, LeO (epicycleref05_Prime.f k a0) (epicycleref05_Prime.f (k + 1) a0) := by
 intro a0 k
 obtain ⟨ih0, ih1⟩ := epicycleref05_Prime.mono_l k
 unfold epicycleref05_Prime.f
 repeat' first
   | (with_reducible exact ih0 _ _)
   | (with_reducible exact ih1 _ _)
   | (with_reducible exact LeO.refl _)
   | (with_reducible exact LeO.none _)
   | (with_reducible refine LeO.ite ?_ ?_)
   | (with_reducible refine LeO.bind ?_ (fun _ => ?_))
set_option maxHeartbeats 8000000 in
set_option maxRecDepth 100000 in
theorem epicycleref05_Prime.calls (k : Nat) (a0 : Int) (r : Bool) (w : World) (h : epicycleref05_Prime.f k a0 = some r) :
  Calls Tryz.prog 120 #[.int .u64 a0] w fun e w' => e = .returned (.bool r) ∧ Drawn0 w w' := by
 have H := h; unfold epicycleref05_Prime.f at H
 clear h
 have HC2 := Aside0.mk H
 clear H
 go_enter Tryz.func120, Tryz.ntmps120
 go_upto_region 1 with (fail)
 go_cut [9] (fun v9 wc => ∃ (kq : Nat) (x9_1 : Bool), v9 = .bool x9_1 ∧ Aside0 (epicycleref05_Prime.j0 kq a0 x9_1 = some r) ∧ Aside0 (kq ≤ k) ∧ Drawn0 w wc)
 case first =>
  have H := HC2.out
  clear HC2
  by_cases c3 : a0 < 2
  ·rw [if_pos c3] at H
   have c3b0 := decide_eq_true c3
   clear c3
   (first | rw [c3b0] | (simp only [i64_w, i32_w]; rw [c3b0]) | skip)
   have H' := Aside0.mk H
   clear H
   go_wp2
   go_meet
   case rel => exact ⟨_, (true), eq_, H', ⟨by first | omega | exact Nat.le_refl _⟩, dw_⟩
  ·rw [if_neg c3] at H
   have c3b0 := decide_eq_false c3
   clear c3
   (first | rw [c3b0] | (simp only [i64_w, i32_w]; rw [c3b0]) | skip)
   have H' := Aside0.mk H
   clear H
   go_wp2
   go_meet
   case rel => exact ⟨_, (decide (a0 > 4294967296)), eq_, H', ⟨by first | omega | exact Nat.le_refl _⟩, dw_⟩
 case rest =>
  clear HC2
  obtain ⟨kq, x9_1, rfl, HA, HJ1, ⟨mc1, rfl⟩⟩ := hcut
  cases kq with
  | zero => exact absurd HA.out (by simp [epicycleref05_Prime.j0])
  | succ kj1 =>
   have H := HA.out
   clear HA
   simp only [epicycleref05_Prime.j0] at H
   by_cases c4 : x9_1 = true
   ·subst c4
    have H1 := H; rw [if_pos rfl] at H1
    clear H
    have H := H1
    clear H1
    obtain rfl := Option.some.inj H
    go_wp2
    go_ret
    exact ⟨eq_, dw_⟩
   ·replace c4 := Bool.eq_false_iff.mpr c4
    subst c4
    have H1 := H; rw [if_neg (show ¬ (false = true) by decide)] at H1
    clear H
    have H := H1
    clear H1
    have H' := Aside0.mk H
    clear H
    go_wp2
    go_loopg [3] kj1 (fun kq v3 w' => ∃ (x3_2 : Int), v3 = .int .u64 x3_2 ∧ Aside0 (epicycleref05_Prime.l0 kq a0 x3_2 = some r) ∧ Aside0 (kq ≤ kj1) ∧ Drawn0 w w')
    case atStart => exact ⟨(2), eq_, H', ⟨Nat.le_refl _⟩, dw_⟩
    case round =>
     clear H'
     obtain ⟨x3_2, rfl, HA, HK2, ⟨m2, rfl⟩⟩ := hrel
     cases gk with
     | zero => exact absurd HA.out (by simp [epicycleref05_Prime.l0])
     | succ k2 =>
      have H := HA.out
      clear HA
      simp only [epicycleref05_Prime.l0] at H
      by_cases c5 : (IntKind.u64.wrap (x3_2 * x3_2)) ≤ a0
      ·rw [if_pos c5] at H
       have c5b0 := decide_eq_true c5
       clear c5
       by_cases c6 : x3_2 = 0
       ·rw [if_pos c6] at H
        exact absurd H (by simp)
       ·rw [if_neg c6] at H
        have c6b0 := beq_eq_false_iff_ne.mpr c6
        have c6b1 := bne_iff_ne.mpr c6
        by_cases c7 : (Int.tmod a0 x3_2) = 0
        ·rw [if_pos c7] at H
         have c7b0 := beq_iff_eq.mpr c7
         have c7b1 := bne_eq_false_iff_eq.mpr c7
         clear c7
         obtain rfl := Option.some.inj H
         go_wp2
         go_ret
         exact ⟨eq_, dw_⟩
        ·rw [if_neg c7] at H
         have c7b0 := beq_eq_false_iff_ne.mpr c7
         have c7b1 := bne_iff_ne.mpr c7
         have H' := Aside0.mk H
         clear H
         go_wp2
         go_roundg k2
         case measure => have := HJ1.out; have := HK2.out; omega
         case rel => exact ⟨(IntKind.u64.wrap (x3_2 + 1)), eq_, H', ⟨by have := HJ1.out; have := HK2.out; omega⟩, dw_⟩
      ·rw [if_neg c5] at H
       have c5b0 := decide_eq_false c5
       clear c5
       obtain rfl := Option.some.inj H
       go_wp2
       go_ret
       exact ⟨eq_, dw_⟩
def epicycleref05_Odd.f (k : Nat) (a0 : Int) : Option (Bool) := if a0 > 2 then (if a0 ≤ 65536 then ((epicycleref05_Prime.f k a0).bind fun t125 => (some t125)) else (some false)) else (some false)
theorem epicycleref05_Odd.mono : ∀ a0 k, LeO (epicycleref05_Odd.f k a0) (epicycleref05_Odd.f (k + 1) a0) := by
 intro a0 k
 unfold epicycleref05_Odd.f
 repeat' first
   | (with_reducible exact epicycleref05_Prime.mono _ _)
   | (with_reducible exact LeO.refl _)
   | (with_reducible exact LeO.none _)
   | (with_reducible refine LeO.ite ?_ ?_)
   | (with_reducible refine LeO.bind ?_ (fun _ => ?_))
set_option maxHeartbeats 8000000 in
set_option maxRecDepth 100000 in
theorem epicycleref05_Odd.calls (k : Nat) (a0 : Int) (r : Bool) (w : World) (h : epicycleref05_Odd.f k a0 = some r) :
  Calls Tryz.prog 89 #[.int .u64 a0] w fun e w' => e = .returned (.bool r) ∧ Drawn0 w w' := by
 have H := h; unfold epicycleref05_Odd.f at H
 clear h
 by_cases c2 : a0 > 2
 ·rw [if_pos c2] at H
  have c2b0 := decide_eq_true c2
  clear c2
  by_cases c3 : a0 ≤ 65536
  ·rw [if_pos c3] at H
   have c3b0 := decide_eq_true c3
   clear c3
   replace H := Option.bind_eq_some_iff.mp H
   obtain ⟨t125, A40, H⟩ := H
   (try dsimp only at H)
   have A4 := Aside0.mk A40
   clear A40
   obtain rfl := Option.some.inj H
   go_enter Tryz.func89, Tryz.ntmps89
   go_wp2_with (first | (go_at_call 120; (with_reducible refine (epicycleref05_Prime.calls k a0 t125 _ A4.out).mono ?_); rintro e w' ⟨rfl, ⟨nd, rfl⟩⟩))
   go_ret
   exact ⟨eq_, dw_⟩
  ·rw [if_neg c3] at H
   have c3b0 := decide_eq_false c3
   clear c3
   obtain rfl := Option.some.inj H
   go_enter Tryz.func89, Tryz.ntmps89
   go_wp2
   go_ret
   exact ⟨eq_, dw_⟩
 ·rw [if_neg c2] at H
  have c2b0 := decide_eq_false c2
  clear c2
  obtain rfl := Option.some.inj H
  go_enter Tryz.func89, Tryz.ntmps89
  go_wp2
  go_ret
  exact ⟨eq_, dw_⟩
def epicycleref05_Order.l0 : Nat → Int → Int → Int → Int → Option (Int)
 | 0, _, _, _, _ => none
 | k + 1, x0, x1, x5, x6 => if x6 = 1 then (some x5) else (if x1 = 0 then (none) else (epicycleref05_Order.l0 k x0 x1 (IntKind.u64.wrap (x5 + 1)) (Int.tmod (IntKind.u64.wrap (x6 * x0)) x1)))
def epicycleref05_Order.f (k : Nat) (a0 : Int) (a1 : Int) : Option (Int) := if a1 = 0 then (none) else (epicycleref05_Order.l0 k a0 a1 1 (Int.tmod a0 a1))
theorem epicycleref05_Order.mono_l : ∀ k, (∀ y0 y1 y2 y3, LeO (epicycleref05_Order.l0 k y0 y1 y2 y3) (epicycleref05_Order.l0 (k + 1) y0 y1 y2 y3))
 | 0 => fun _ _ _ _ r h => by simp [epicycleref05_Order.l0] at h
 | k + 1 => by
  have ih0 := epicycleref05_Order.mono_l k
  ·intro y0 y1 y2 y3
   unfold epicycleref05_Order.l0
   repeat' first
   | (with_reducible exact ih0 _ _ _ _)
   | (with_reducible exact LeO.refl _)
   | (with_reducible exact LeO.none _)
   | (with_reducible refine LeO.ite ?_ ?_)
   | (with_reducible refine LeO.bind ?_ (fun _ => ?_))
theorem epicycleref05_Order.mono : ∀ a0 a1 k, LeO (epicycleref05_Order.f k a0 a1) (epicycleref05_Order.f (k + 1) a0 a1) := by
 intro a0 a1 k
 have ih0 := epicycleref05_Order.mono_l k
 unfold epicycleref05_Order.f
 repeat' first
   | (with_reducible exact ih0 _ _ _ _)
   | (with_reducible exact LeO.refl _)
   | (with_reducible exact LeO.none _)
   | (with_reducible refine LeO.ite ?_ ?_)
   | (with_reducible refine LeO.bind ?_ (fun _ => ?_))
set_option maxHeartbeats 8000000 in
set_option maxRecDepth 100000 in
theorem epicycleref05_Order.calls (k : Nat) (a0 : Int) (a1 : Int) (r : Int) (w : World) (h : epicycleref05_Order.f k a0 a1 = some r) :
  Calls Tryz.prog 121 #[.int .u64 a0, .int .u64 a1] w fun e w' => e = .returned (.int .u64 r) ∧ Drawn0 w w' := by
 have H := h; unfold epicycleref05_Order.f at H
 clear h
 by_cases c3 : a1 = 0
 ·rw [if_pos c3] at H
  exact absurd H (by simp)
 ·rw [if_neg c3] at H
  have c3b0 := beq_eq_false_iff_ne.mpr c3
  have c3b1 := bne_iff_ne.mpr c3
  have H' := Aside0.mk H
  clear H
  go_enter Tryz.func121, Tryz.ntmps121
  go_wp2
  go_loopg [5, 6] k (fun kq v5 v6 w' => ∃ (x5_1 : Int) (x6_1 : Int), v5 = .int .u64 x5_1 ∧ v6 = .int .u64 x6_1 ∧ Aside0 (epicycleref05_Order.l0 kq a0 a1 x5_1 x6_1 = some r) ∧ Aside0 (kq ≤ k) ∧ Drawn0 w w')
  case atStart => exact ⟨(1), (Int.tmod a0 a1), eq_, eq_, H', ⟨Nat.le_refl _⟩, dw_⟩
  case round =>
   clear H'
   obtain ⟨x5_1, x6_1, rfl, rfl, HA, HK1, ⟨m1, rfl⟩⟩ := hrel
   cases gk with
   | zero => exact absurd HA.out (by simp [epicycleref05_Order.l0])
   | succ k1 =>
    have H := HA.out
    clear HA
    simp only [epicycleref05_Order.l0] at H
    by_cases c4 : x6_1 = 1
    ·rw [if_pos c4] at H
     have c4b0 := beq_iff_eq.mpr c4
     have c4b1 := bne_eq_false_iff_eq.mpr c4
     clear c4
     obtain rfl := Option.some.inj H
     go_wp2
     go_ret
     exact ⟨eq_, dw_⟩
    ·rw [if_neg c4] at H
     have c4b0 := beq_eq_false_iff_ne.mpr c4
     have c4b1 := bne_iff_ne.mpr c4
     by_cases c5 : a1 = 0
     ·rw [if_pos c5] at H
      exact absurd H (by simp)
     ·rw [if_neg c5] at H
      have c5b0 := beq_eq_false_iff_ne.mpr c5
      have c5b1 := bne_iff_ne.mpr c5
      have H' := Aside0.mk H
      clear H
      go_wp2
      go_roundg k1
      case measure => have := HK1.out; omega
      case rel => exact ⟨(IntKind.u64.wrap (x5_1 + 1)), (Int.tmod (IntKind.u64.wrap (x6_1 * a0)) a1), eq_, eq_, H', ⟨by have := HK1.out; omega⟩, dw_⟩
def epicycleref05_Generator.l0 : Nat → Int → Int → Option (Int)
 | 0, _, _ => none
 | k + 1, x0, x3 => if x3 < x0 then ((epicycleref05_Order.f k x3 x0).bind fun t127 => (if t127 = (IntKind.u64.wrap (x0 - 1)) then (some x3) else (epicycleref05_Generator.l0 k x0 (IntKind.u64.wrap (x3 + 1))))) else (some 0)
def epicycleref05_Generator.f (k : Nat) (a0 : Int) : Option (Int) := (epicycleref05_Odd.f k a0).bind fun t126 => (if t126 = true then (epicycleref05_Generator.l0 k a0 2) else (some 0))
theorem epicycleref05_Generator.mono_l : ∀ k, (∀ y0 y1, LeO (epicycleref05_Generator.l0 k y0 y1) (epicycleref05_Generator.l0 (k + 1) y0 y1))
 | 0 => fun _ _ r h => by simp [epicycleref05_Generator.l0] at h
 | k + 1 => by
  have ih0 := epicycleref05_Generator.mono_l k
  ·intro y0 y1
   unfold epicycleref05_Generator.l0
   repeat' first
   | (with_reducible exact ih0 _ _)
   | (with_reducible exact epicycleref05_Odd.mono _ _)
   | (with_reducible exact epicycleref05_Order.mono _ _ _)
   | (with_reducible exact LeO.refl _)
   | (with_reducible exact LeO.none _)
   | (with_reducible refine LeO.ite ?_ ?_)
   | (with_reducible refine LeO.bind ?_ (fun _ => ?_))
theorem epicycleref05_Generator.mono : ∀ a0 k, LeO (epicycleref05_Generator.f k a0) (epicycleref05_Generator.f (k + 1) a0) := by
 intro a0 k
 have ih0 := epicycleref05_Generator.mono_l k
 unfold epicycleref05_Generator.f
 repeat' first
   | (with_reducible exact ih0 _ _)
   | (with_reducible exact epicycleref05_Odd.mono _ _)
   | (with_reducible exact epicycleref05_Order.mono _ _ _)
   | (with_reducible exact LeO.refl _)
   | (with_reducible exact LeO.none _)
   | (with_reducible refine LeO.ite ?_ ?_)
   | (with_reducible refine LeO.bind ?_ (fun _ => ?_))
set_option maxHeartbeats 8000000 in
set_option maxRecDepth 100000 in
theorem epicycleref05_Generator.calls (k : Nat) (a0 : Int) (r : Int) (w : World) (h : epicycleref05_Generator.f k a0 = some r) :
  Calls Tryz.prog 90 #[.int .u64 a0] w fun e w' => e = .returned (.int .u64 r) ∧ Drawn0 w w' := by
 have H := h; unfold epicycleref05_Generator.f at H
 clear h
 replace H := Option.bind_eq_some_iff.mp H
 obtain ⟨t126, A20, H⟩ := H
 (try dsimp only at H)
 have A2 := Aside0.mk A20
 clear A20
 by_cases c3 : t126 = true
 ·subst c3
  have H1 := H; rw [if_pos rfl] at H1
  clear H
  have H := H1
  clear H1
  have H' := Aside0.mk H
  clear H
  go_enter Tryz.func90, Tryz.ntmps90
  go_wp2_with (first | (refine gl_ 5 Tryz.func89 #[.int .u64 a0] rfl ?_; (with_reducible refine (epicycleref05_Odd.calls k a0 true _ A2.out).mono ?_); rintro e w' ⟨rfl, ⟨nd, rfl⟩⟩; refine ⟨_, rfl, ?_⟩))
  go_loopg [3] k (fun kq v3 w' => ∃ (x3_1 : Int), v3 = .int .u64 x3_1 ∧ Aside0 (epicycleref05_Generator.l0 kq a0 x3_1 = some r) ∧ Aside0 (kq ≤ k) ∧ Drawn0 w w')
  case atStart => exact ⟨(2), eq_, H', ⟨Nat.le_refl _⟩, dw_⟩
  case round =>
   clear H'
   obtain ⟨x3_1, rfl, HA, HK1, ⟨m1, rfl⟩⟩ := hrel
   cases gk with
   | zero => exact absurd HA.out (by simp [epicycleref05_Generator.l0])
   | succ k1 =>
    have H := HA.out
    clear HA
    simp only [epicycleref05_Generator.l0] at H
    by_cases c4 : x3_1 < a0
    ·rw [if_pos c4] at H
     have c4b0 := decide_eq_true c4
     clear c4
     replace H := Option.bind_eq_some_iff.mp H
     obtain ⟨t127, A50, H⟩ := H
     (try dsimp only at H)
     have A5 := Aside0.mk A50
     clear A50
     by_cases c6 : t127 = (IntKind.u64.wrap (a0 - 1))
     ·rw [if_pos c6] at H
      have c6b0 := beq_iff_eq.mpr c6
      have c6b1 := bne_eq_false_iff_eq.mpr c6
      clear c6
      obtain rfl := Option.some.inj H
      go_wp2_with (first | (refine gl_ 14 Tryz.func121 #[.int .u64 x3_1, .int .u64 a0] rfl ?_; (with_reducible refine (epicycleref05_Order.calls k1 x3_1 a0 t127 _ A5.out).mono ?_); rintro e w' ⟨rfl, ⟨nd, rfl⟩⟩; refine ⟨_, rfl, ?_⟩))
      go_ret
      exact ⟨eq_, dw_⟩
     ·rw [if_neg c6] at H
      have c6b0 := beq_eq_false_iff_ne.mpr c6
      have c6b1 := bne_iff_ne.mpr c6
      have H' := Aside0.mk H
      clear H
      go_wp2_with (first | (refine gl_ 14 Tryz.func121 #[.int .u64 x3_1, .int .u64 a0] rfl ?_; (with_reducible refine (epicycleref05_Order.calls k1 x3_1 a0 t127 _ A5.out).mono ?_); rintro e w' ⟨rfl, ⟨nd, rfl⟩⟩; refine ⟨_, rfl, ?_⟩))
      go_roundg k1
      case measure => have := HK1.out; omega
      case rel => exact ⟨(IntKind.u64.wrap (x3_1 + 1)), eq_, H', ⟨by have := HK1.out; omega⟩, dw_⟩
    ·rw [if_neg c4] at H
     have c4b0 := decide_eq_false c4
     clear c4
     obtain rfl := Option.some.inj H
     go_wp2
     go_ret
     exact ⟨eq_, dw_⟩
 ·replace c3 := Bool.eq_false_iff.mpr c3
  subst c3
  have H1 := H; rw [if_neg (show ¬ (false = true) by decide)] at H1
  clear H
  have H := H1
  clear H1
  obtain rfl := Option.some.inj H
  go_enter Tryz.func90, Tryz.ntmps90
  go_wp2_with (first | (refine gl_ 5 Tryz.func89 #[.int .u64 a0] rfl ?_; (with_reducible refine (epicycleref05_Odd.calls k a0 false _ A2.out).mono ?_); rintro e w' ⟨rfl, ⟨nd, rfl⟩⟩; refine ⟨_, rfl, ?_⟩))
  go_ret
  exact ⟨eq_, dw_⟩
def epicycleref02_Add.f (a0 : Int) (a1 : Int) (a2 : Int) : Option (Int) := if a2 = 0 then (none) else (if (Int.tmod a0 a2) ≥ (IntKind.u64.wrap (a2 - (Int.tmod a1 a2))) then (some (IntKind.u64.wrap ((Int.tmod a0 a2) - (IntKind.u64.wrap (a2 - (Int.tmod a1 a2)))))) else (some (IntKind.u64.wrap ((Int.tmod a0 a2) + (Int.tmod a1 a2)))))
set_option maxHeartbeats 8000000 in
set_option maxRecDepth 100000 in
theorem epicycleref02_Add.calls (a0 : Int) (a1 : Int) (a2 : Int) (r : Int) (w : World) (h : epicycleref02_Add.f a0 a1 a2 = some r) :
  Calls Tryz.prog 28 #[.int .u64 a0, .int .u64 a1, .int .u64 a2] w fun e w' => e = .returned (.int .u64 r) ∧ Drawn0 w w' := by
 have H := h; unfold epicycleref02_Add.f at H
 clear h
 by_cases c4 : a2 = 0
 ·rw [if_pos c4] at H
  exact absurd H (by simp)
 ·rw [if_neg c4] at H
  have c4b0 := beq_eq_false_iff_ne.mpr c4
  have c4b1 := bne_iff_ne.mpr c4
  by_cases c5 : (Int.tmod a0 a2) ≥ (IntKind.u64.wrap (a2 - (Int.tmod a1 a2)))
  ·rw [if_pos c5] at H
   have c5b0 := decide_eq_true c5
   clear c5
   obtain rfl := Option.some.inj H
   go_enter Tryz.func28, Tryz.ntmps28
   go_wp2
   go_ret
   exact ⟨eq_, dw_⟩
  ·rw [if_neg c5] at H
   have c5b0 := decide_eq_false c5
   clear c5
   obtain rfl := Option.some.inj H
   go_enter Tryz.func28, Tryz.ntmps28
   go_wp2
   go_ret
   exact ⟨eq_, dw_⟩
def epicycleref02_Mul.l0 : Nat → Int → Int → Int → Int → Option (Int)
 | 0, _, _, _, _ => none
 | k + 1, x0, x1, x2, x7 => if x1 > 0 then (if (Int.tmod x1 2) = 1 then ((epicycleref02_Add.f x7 x0 x2).bind fun t128 => ((epicycleref02_Add.f x0 x0 x2).bind fun t129 => (epicycleref02_Mul.l0 k t129 (IntKind.u64.wrap (Int.tdiv x1 2)) x2 t128))) else ((epicycleref02_Add.f x0 x0 x2).bind fun t130 => (epicycleref02_Mul.l0 k t130 (IntKind.u64.wrap (Int.tdiv x1 2)) x2 x7))) else (some x7)
def epicycleref02_Mul.f (k : Nat) (a0 : Int) (a1 : Int) (a2 : Int) : Option (Int) := if a2 = 0 then (none) else (epicycleref02_Mul.l0 k (Int.tmod a0 a2) a1 a2 0)
set_option maxHeartbeats 8000000 in
set_option maxRecDepth 100000 in
theorem epicycleref02_Mul.calls (k : Nat) (a0 : Int) (a1 : Int) (a2 : Int) (r : Int) (w : World) (h : epicycleref02_Mul.f k a0 a1 a2 = some r) :
  Calls Tryz.prog 26 #[.int .u64 a0, .int .u64 a1, .int .u64 a2] w fun e w' => e = .returned (.int .u64 r) ∧ Drawn0 w w' := by
 have H := h; unfold epicycleref02_Mul.f at H
 clear h
 by_cases c4 : a2 = 0
 ·rw [if_pos c4] at H
  exact absurd H (by simp)
 ·rw [if_neg c4] at H
  have c4b0 := beq_eq_false_iff_ne.mpr c4
  have c4b1 := bne_iff_ne.mpr c4
  have H' := Aside0.mk H
  clear H
  go_enter Tryz.func26, Tryz.ntmps26
  go_wp2
  go_loopg [0, 1, 7] k (fun kq v0 v1 v7 w' => ∃ (x0_1 : Int) (x1_1 : Int) (x7_1 : Int), v0 = .int .u64 x0_1 ∧ v1 = .int .u64 x1_1 ∧ v7 = .int .u64 x7_1 ∧ Aside0 (epicycleref02_Mul.l0 kq x0_1 x1_1 a2 x7_1 = some r) ∧ Aside0 (kq ≤ k) ∧ Drawn0 w w')
  case atStart => exact ⟨(Int.tmod a0 a2), (a1), (0), eq_, eq_, eq_, H', ⟨Nat.le_refl _⟩, dw_⟩
  case round =>
   clear H'
   obtain ⟨x0_1, x1_1, x7_1, rfl, rfl, rfl, HA, HK1, ⟨m1, rfl⟩⟩ := hrel
   cases gk with
   | zero => exact absurd HA.out (by simp [epicycleref02_Mul.l0])
   | succ k1 =>
    have H := HA.out
    clear HA
    simp only [epicycleref02_Mul.l0] at H
    by_cases c5 : x1_1 > 0
    ·rw [if_pos c5] at H
     have c5b0 := decide_eq_true c5
     clear c5
     by_cases c6 : (Int.tmod x1_1 2) = 1
     ·rw [if_pos c6] at H
      have c6b0 := beq_iff_eq.mpr c6
      have c6b1 := bne_eq_false_iff_eq.mpr c6
      clear c6
      replace H := Option.bind_eq_some_iff.mp H
      obtain ⟨t128, A70, H⟩ := H
      (try dsimp only at H)
      have A7 := Aside0.mk A70
      clear A70
      replace H := Option.bind_eq_some_iff.mp H
      obtain ⟨t129, A80, H⟩ := H
      (try dsimp only at H)
      have A8 := Aside0.mk A80
      clear A80
      have H' := Aside0.mk H
      clear H
      go_wp2_with (first | (refine gl_ 19 Tryz.func28 #[.int .u64 x7_1, .int .u64 x0_1, .int .u64 a2] rfl ?_; (with_reducible refine (epicycleref02_Add.calls x7_1 x0_1 a2 t128 _ A7.out).mono ?_); rintro e w' ⟨rfl, ⟨nd, rfl⟩⟩; refine ⟨_, rfl, ?_⟩) | (refine gl_ 23 Tryz.func28 #[.int .u64 x0_1, .int .u64 x0_1, .int .u64 a2] rfl ?_; (with_reducible refine (epicycleref02_Add.calls x0_1 x0_1 a2 t129 _ A8.out).mono ?_); rintro e w' ⟨rfl, ⟨nd, rfl⟩⟩; refine ⟨_, rfl, ?_⟩))
      go_roundg k1
      case measure => have := HK1.out; omega
      case rel => exact ⟨(t129), (IntKind.u64.wrap (Int.tdiv x1_1 2)), (t128), eq_, eq_, eq_, H', ⟨by have := HK1.out; omega⟩, dw_⟩
     ·rw [if_neg c6] at H
      have c6b0 := beq_eq_false_iff_ne.mpr c6
      have c6b1 := bne_iff_ne.mpr c6
      replace H := Option.bind_eq_some_iff.mp H
      obtain ⟨t130, A90, H⟩ := H
      (try dsimp only at H)
      have A9 := Aside0.mk A90
      clear A90
      have H' := Aside0.mk H
      clear H
      go_wp2_with (first | (refine gl_ 23 Tryz.func28 #[.int .u64 x0_1, .int .u64 x0_1, .int .u64 a2] rfl ?_; (with_reducible refine (epicycleref02_Add.calls x0_1 x0_1 a2 t130 _ A9.out).mono ?_); rintro e w' ⟨rfl, ⟨nd, rfl⟩⟩; refine ⟨_, rfl, ?_⟩))
      go_roundg k1
      case measure => have := HK1.out; omega
      case rel => exact ⟨(t130), (IntKind.u64.wrap (Int.tdiv x1_1 2)), (x7_1), eq_, eq_, eq_, H', ⟨by have := HK1.out; omega⟩, dw_⟩
    ·rw [if_neg c5] at H
     have c5b0 := decide_eq_false c5
     clear c5
     obtain rfl := Option.some.inj H
     go_wp2
     go_ret
     exact ⟨eq_, dw_⟩
end Go.Proofs.YtndkmnjbjlfeaaaGreat.XS
end
section
namespace Go.Proofs.YtndkmnjbjlfeaaaGreat.XS
open Go.RowKit Go.Proofs.YtndkmnjbjlfeaaaGreat.Given Go.Proofs.YtndkmnjbjlfeaaaGreatW.PrintWords Go.Proofs.YtndkmnjbjlfeaaaGreatW.PrintLast Go.Proofs.YtndkmnjbjlfeaaaGreatW.PrintMore
attribute [local go_sem] max2_int min2_int max_two min_two max_three min_three max_four min_four   -- for this text's walks alone
set_option linter.unusedVariables false
set_option linter.unusedSimpArgs false
def epicycleref02_Pow.f : Nat → Int → Int → Int → Option (Int)
 | 0, _, _, _ => none
 | k + 1, a0, a1, a2 => if a1 = 0 then (if a2 = 0 then (none) else (some ((1 : Int) % a2))) else ((epicycleref02_Pow.f k a0 (IntKind.u64.wrap (Int.tdiv a1 2)) a2).bind fun t131 => ((epicycleref02_Mul.f k t131 t131 a2).bind fun t132 => (if (Int.tmod a1 2) = 1 then ((epicycleref02_Mul.f k t132 a0 a2).bind fun t133 => (some t133)) else (some t132))))
set_option maxHeartbeats 8000000 in
set_option maxRecDepth 100000 in
theorem epicycleref02_Pow.calls (k : Nat) : ∀ (a0 : Int) (a1 : Int) (a2 : Int) (r : Int) (w : World) (h : epicycleref02_Pow.f k a0 a1 a2 = some r),
  Calls Tryz.prog 30 #[.int .u64 a0, .int .u64 a1, .int .u64 a2] w fun e w' => e = .returned (.int .u64 r) ∧ Drawn0 w w' := by
 induction k using Nat.strongRecOn with
 | _ k ih =>
 intro a0 a1 a2 r w h
 cases k with
 | zero => exact absurd h (by simp [epicycleref02_Pow.f])
 | succ k =>
 simp only [epicycleref02_Pow.f] at h
 have H : (if a1 = 0 then (if a2 = 0 then (none) else (some ((1 : Int) % a2))) else ((epicycleref02_Pow.f k a0 (IntKind.u64.wrap (Int.tdiv a1 2)) a2).bind fun t131 => ((epicycleref02_Mul.f k t131 t131 a2).bind fun t132 => (if (Int.tmod a1 2) = 1 then ((epicycleref02_Mul.f k t132 a0 a2).bind fun t133 => (some t133)) else (some t132))))) = some r := h
 clear h
 by_cases c4 : a1 = 0
 ·rw [if_pos c4] at H
  have c4b0 := beq_iff_eq.mpr c4
  have c4b1 := bne_eq_false_iff_eq.mpr c4
  clear c4
  by_cases c5 : a2 = 0
  ·rw [if_pos c5] at H
   exact absurd H (by simp)
  ·rw [if_neg c5] at H
   have c5b0 := beq_eq_false_iff_ne.mpr c5
   have c5b1 := bne_iff_ne.mpr c5
   obtain rfl := Option.some.inj H
   go_enter Tryz.func30, Tryz.ntmps30
   go_wp2
   go_ret
   exact ⟨eq_, dw_⟩
 ·rw [if_neg c4] at H
  have c4b0 := beq_eq_false_iff_ne.mpr c4
  have c4b1 := bne_iff_ne.mpr c4
  replace H := Option.bind_eq_some_iff.mp H
  obtain ⟨t131, A60, H⟩ := H
  replace H : ((epicycleref02_Mul.f k t131 t131 a2).bind fun t132 => (if (Int.tmod a1 2) = 1 then ((epicycleref02_Mul.f k t132 a0 a2).bind fun t133 => (some t133)) else (some t132))) = some r := H
  have A6 := Aside0.mk A60
  clear A60
  replace H := Option.bind_eq_some_iff.mp H
  obtain ⟨t132, A70, H⟩ := H
  replace H : (if (Int.tmod a1 2) = 1 then ((epicycleref02_Mul.f k t132 a0 a2).bind fun t133 => (some t133)) else (some t132)) = some r := H
  have A7 := Aside0.mk A70
  clear A70
  by_cases c8 : (Int.tmod a1 2) = 1
  ·rw [if_pos c8] at H
   have c8b0 := beq_iff_eq.mpr c8
   have c8b1 := bne_eq_false_iff_eq.mpr c8
   clear c8
   replace H := Option.bind_eq_some_iff.mp H
   obtain ⟨t133, A90, H⟩ := H
   replace H : (some t133) = some r := H
   have A9 := Aside0.mk A90
   clear A90
   obtain rfl := Option.some.inj H
   go_enter Tryz.func30, Tryz.ntmps30
   go_wp2_with (first | ((with_reducible refine gate_callee (f := 30) rfl ?_); refine goesL_ (some 17) rfl rfl Tryz.func30 (by kernel_rfl) rfl #[.int .u64 a0, .int .u64 (IntKind.u64.wrap (Int.tdiv a1 2)), .int .u64 a2] rfl ga_ ?_; (with_reducible refine (ih k (by omega) a0 (IntKind.u64.wrap (Int.tdiv a1 2)) a2 t131 _ A6.out).mono ?_); rintro e w' ⟨rfl, ⟨nd, rfl⟩⟩; refine ⟨_, rfl, ?_⟩) | ((with_reducible refine gate_callee (f := 26) rfl ?_); refine goesL_ (some 21) rfl rfl Tryz.func26 (by kernel_rfl) rfl #[.int .u64 t131, .int .u64 t131, .int .u64 a2] rfl ga_ ?_; (with_reducible refine (epicycleref02_Mul.calls k t131 t131 a2 t132 _ A7.out).mono ?_); rintro e w' ⟨rfl, ⟨nd, rfl⟩⟩; refine ⟨_, rfl, ?_⟩) | ((with_reducible refine gate_callee (f := 26) rfl ?_); refine goesL_ (some 28) rfl rfl Tryz.func26 (by kernel_rfl) rfl #[.int .u64 t132, .int .u64 a0, .int .u64 a2] rfl ga_ ?_; (with_reducible refine (epicycleref02_Mul.calls k t132 a0 a2 t133 _ A9.out).mono ?_); rintro e w' ⟨rfl, ⟨nd, rfl⟩⟩; refine ⟨_, rfl, ?_⟩))
   go_ret
   exact ⟨eq_, dw_⟩
  ·rw [if_neg c8] at H
   have c8b0 := beq_eq_false_iff_ne.mpr c8
   have c8b1 := bne_iff_ne.mpr c8
   obtain rfl := Option.some.inj H
   go_enter Tryz.func30, Tryz.ntmps30
   go_wp2_with (first | ((with_reducible refine gate_callee (f := 30) rfl ?_); refine goesL_ (some 17) rfl rfl Tryz.func30 (by kernel_rfl) rfl #[.int .u64 a0, .int .u64 (IntKind.u64.wrap (Int.tdiv a1 2)), .int .u64 a2] rfl ga_ ?_; (with_reducible refine (ih k (by omega) a0 (IntKind.u64.wrap (Int.tdiv a1 2)) a2 t131 _ A6.out).mono ?_); rintro e w' ⟨rfl, ⟨nd, rfl⟩⟩; refine ⟨_, rfl, ?_⟩) | ((with_reducible refine gate_callee (f := 26) rfl ?_); refine goesL_ (some 21) rfl rfl Tryz.func26 (by kernel_rfl) rfl #[.int .u64 t131, .int .u64 t131, .int .u64 a2] rfl ga_ ?_; (with_reducible refine (epicycleref02_Mul.calls k t131 t131 a2 t132 _ A7.out).mono ?_); rintro e w' ⟨rfl, ⟨nd, rfl⟩⟩; refine ⟨_, rfl, ?_⟩))
   go_ret
   exact ⟨eq_, dw_⟩
end Go.Proofs.YtndkmnjbjlfeaaaGreat.XS
end
section

end
section
namespace Go.Proofs.YtndkmnjbjlfeaaaGreat.XR
open Go.RowKit Go.Proofs.YtndkmnjbjlfeaaaGreat.Given Go.Proofs.YtndkmnjbjlfeaaaGreat.XS Go.Proofs.YtndkmnjbjlfeaaaGreatW.PrintWords Go.Proofs.YtndkmnjbjlfeaaaGreatW.PrintLast Go.Proofs.YtndkmnjbjlfeaaaGreatW.PrintMore
attribute [local go_sem] max2_int min2_int max_two min_two max_three min_three max_four min_four   -- for this text's walks alone
set_option linter.unusedVariables false
set_option linter.unusedSimpArgs false
def epicycleref04_Claimed.l0 : Nat → Int → List (S134) → Int → Int → Option (Bool)
 | 0, _, _, _, _ => none
 | k + 1, x1, x7, x8, x9 => if x9 < x8 then (if 0 ≤ x9 then (if x9 < (x7.length : Int) then (if ((rd_T134 x7 x9).f0) = x1 then (some true) else (epicycleref04_Claimed.l0 k x1 x7 x8 (wrap64 (x9 + 1)))) else (none)) else (none)) else (some false)
def epicycleref04_Claimed.f (k : Nat) (l0 : List (S134)) (a1 : Int) : Option (Bool) := epicycleref04_Claimed.l0 k a1 l0 (l0.length : Int) 0
set_option maxHeartbeats 8000000 in
set_option maxRecDepth 100000 in
theorem epicycleref04_Claimed.calls (k : Nat) (A0 : Option Addr) (c0 : Nat) (l0 : List (S134)) (a1 : Int) (r : Bool) (w : World) (hr0 : Kd.C k134 w A0 l0.length l0) (hc0 : l0.length ≤ c0) (h : epicycleref04_Claimed.f k l0 a1 = some r) :
  Calls Tryz.prog 148 #[.slice A0 l0.length c0, .int .u64 a1] w fun e w' => e = .returned (.bool r) ∧ Below w.heap.size w w' := by
 have hu134 := Tryz.underlying134
 have HR0 := Aside0.mk hr0
 have HC0 := Aside0.mk hc0
 clear hr0 hc0
 have HB := Aside0.mk (Below.refl w.heap.size w)
 have H := h; unfold epicycleref04_Claimed.f at H
 clear h
 have H' := Aside0.mk H
 clear H
 go_enter Tryz.func148, Tryz.ntmps148
 go_wp2
 go_loopg [9] k (fun kq v9 w' => ∃ (x9_1 : Int), v9 = .int .i64 x9_1 ∧ Aside0 (epicycleref04_Claimed.l0 kq a1 l0 (l0.length : Int) x9_1 = some r) ∧ Aside0 (kq ≤ k) ∧ Aside0 (Below w.heap.size w w'))
 case atStart => exact ⟨(0), eq_, H', ⟨Nat.le_refl _⟩, ⟨bel_⟩⟩
 case round =>
  clear H'
  obtain ⟨x9_1, rfl, HA, HK1, HB⟩ := hrel
  cases gk with
  | zero => exact absurd HA.out (by simp [epicycleref04_Claimed.l0])
  | succ k1 =>
   have H := HA.out
   clear HA
   simp only [epicycleref04_Claimed.l0] at H
   by_cases c3 : x9_1 < (l0.length : Int)
   ·rw [if_pos c3] at H
    have c3b0 := decide_eq_true c3
    clear c3
    by_cases c4 : 0 ≤ x9_1
    ·rw [if_pos c4] at H
     have c4b0 := decide_eq_true c4
     clear c4
     by_cases c5 : x9_1 < (l0.length : Int)
     ·rw [if_pos c5] at H
      have c5b0 := decide_eq_true c5
      clear c5
      by_cases c6 : ((rd_T134 l0 x9_1).f0) = a1
      ·rw [if_pos c6] at H
       have c6b0 := beq_iff_eq.mpr c6
       have c6b1 := bne_eq_false_iff_eq.mpr c6
       clear c6
       obtain rfl := Option.some.inj H
       have p101 : 0 ≤ (x9_1 : Int) := of_decide_eq_true (by assumption)
       have q101 : x9_1 < (l0.length : Int) := of_decide_eq_true (by assumption)
       obtain ⟨ad101, A101_2, c101_2, e101, hx101_0, hx101_1, hx101_2, hl101_2, hi101_2⟩ := at_T134 HR0.out x9_1 p101 q101
       cases e101
       replace hx101_0 := hb_ HB.out hx101_0
       replace hx101_1 := hb_ HB.out hx101_1
       replace hx101_2 := hb_ HB.out hx101_2
       have HR101_2 := Aside0.mk hi101_2
       have HC101_2 := Aside0.mk hl101_2
       clear hi101_2 hl101_2
       replace p101 := eq_true p101
       replace q101 := eq_true q101
       go_wp2_with (first | ((with_reducible refine gate_dst (N := 6) rfl ?_); refine be_ 6 #[.int .u64 0, .int .u64 0, .slice none 0 0] 134 ?_; intro gb102 hg w7 hbox hb; have n0_ := Aside0.mk (below_step bel_ hb); have n1_ := Aside0.mk (hbox); have n2_ := Aside0.mk ((by rw [hg]; exact (below_size bel_) : w.heap.size ≤ gb102)); have n3_ := Aside0.mk ((by rw [hg]; exact (below_size bel_) : w.heap.size ≤ gb102)); clear HB; have HB := n0_; have BK102 := n1_; have GW102 := n2_; have GE102 := n3_; clear n0_ n1_ n2_ n3_; clear hb hbox hg; have hcz8_0 := bc_ BK102.out 0 rfl; have hcz8_1 := bc_ BK102.out 1 rfl; have hcz8_2 := bc_ BK102.out 2 rfl; have hfz8_0 := blk_frozen BK102.out 0; have hfz8_1 := blk_frozen BK102.out 1; have hfz8_2 := blk_frozen BK102.out 2))
       go_ret
       exact ⟨eq_, bel_⟩
      ·rw [if_neg c6] at H
       have c6b0 := beq_eq_false_iff_ne.mpr c6
       have c6b1 := bne_iff_ne.mpr c6
       have H' := Aside0.mk H
       clear H
       have p101 : 0 ≤ (x9_1 : Int) := of_decide_eq_true (by assumption)
       have q101 : x9_1 < (l0.length : Int) := of_decide_eq_true (by assumption)
       obtain ⟨ad101, A101_2, c101_2, e101, hx101_0, hx101_1, hx101_2, hl101_2, hi101_2⟩ := at_T134 HR0.out x9_1 p101 q101
       cases e101
       replace hx101_0 := hb_ HB.out hx101_0
       replace hx101_1 := hb_ HB.out hx101_1
       replace hx101_2 := hb_ HB.out hx101_2
       have HR101_2 := Aside0.mk hi101_2
       have HC101_2 := Aside0.mk hl101_2
       clear hi101_2 hl101_2
       replace p101 := eq_true p101
       replace q101 := eq_true q101
       go_wp2_with (first | ((with_reducible refine gate_dst (N := 6) rfl ?_); refine be_ 6 #[.int .u64 0, .int .u64 0, .slice none 0 0] 134 ?_; intro gb102 hg w9 hbox hb; have n0_ := Aside0.mk (below_step bel_ hb); have n1_ := Aside0.mk (hbox); have n2_ := Aside0.mk ((by rw [hg]; exact (below_size bel_) : w.heap.size ≤ gb102)); have n3_ := Aside0.mk ((by rw [hg]; exact (below_size bel_) : w.heap.size ≤ gb102)); clear HB; have HB := n0_; have BK102 := n1_; have GW102 := n2_; have GE102 := n3_; clear n0_ n1_ n2_ n3_; clear hb hbox hg; have hcz10_0 := bc_ BK102.out 0 rfl; have hcz10_1 := bc_ BK102.out 1 rfl; have hcz10_2 := bc_ BK102.out 2 rfl; have hfz10_0 := blk_frozen BK102.out 0; have hfz10_1 := blk_frozen BK102.out 1; have hfz10_2 := blk_frozen BK102.out 2))
       go_roundg k1
       case measure => have := HK1.out; omega
       case rel => exact ⟨(wrap64 (x9_1 + 1)), eq_, H', ⟨by have := HK1.out; omega⟩, ⟨bel_⟩⟩
     ·rw [if_neg c5] at H
      exact absurd H (by simp)
    ·rw [if_neg c4] at H
     exact absurd H (by simp)
   ·rw [if_neg c3] at H
    have c3b0 := decide_eq_false c3
    clear c3
    obtain rfl := Option.some.inj H
    go_wp2
    go_ret
    exact ⟨eq_, bel_⟩
mutual
def epicycleref04_Product.l0 : Nat → Int → Int → List (S146) → Int → Int → Option (Int × Bool)
 | 0, _, _, _, _, _ => none
 | k + 1, x1, x6, x10, x11, x12 => if x12 < x11 then (if 0 ≤ x12 then (if x12 < (x10.length : Int) then (if ((rd_T146 x10 x12).f1) < 1 then (epicycleref04_Product.j1 k x1 x6 x10 x11 x12 true ((rd_T146 x10 x12).f0) ((rd_T146 x10 x12).f1)) else (if ((rd_T146 x10 x12).f1) > 62 then (epicycleref04_Product.j1 k x1 x6 x10 x11 x12 true ((rd_T146 x10 x12).f0) ((rd_T146 x10 x12).f1)) else (epicycleref04_Product.j1 k x1 x6 x10 x11 x12 (decide (((rd_T146 x10 x12).f0) < 2)) ((rd_T146 x10 x12).f0) ((rd_T146 x10 x12).f1)))) else (none)) else (none)) else (some (x6, true))
def epicycleref04_Product.j1 : Nat → Int → Int → List (S146) → Int → Int → Bool → Int → Int → Option (Int × Bool)
 | 0, _, _, _, _, _, _, _, _ => none
 | k + 1, x1, x6, x10, x11, x12, x28, x105000, x105001 => if x28 = true then (some (0, false)) else (epicycleref04_Product.l1 k x1 x6 0 x10 x11 x12 x105000 x105001)
def epicycleref04_Product.l1 : Nat → Int → Int → Int → List (S146) → Int → Int → Int → Int → Option (Int × Bool)
 | 0, _, _, _, _, _, _, _, _ => none
 | k + 1, x1, x6, x9, x10, x11, x12, x105000, x105001 => if x9 < x105001 then (if x105000 = 0 then (none) else (if x6 > (IntKind.u64.wrap (Int.tdiv x1 x105000)) then (some (0, false)) else (epicycleref04_Product.l1 k x1 (IntKind.u64.wrap (x6 * x105000)) (wrap64 (x9 + 1)) x10 x11 x12 x105000 x105001))) else (epicycleref04_Product.l0 k x1 x6 x10 x11 (wrap64 (x12 + 1)))
end
def epicycleref04_Product.f (k : Nat) (l0 : List (S146)) (a1 : Int) : Option (Int × Bool) := epicycleref04_Product.l0 k a1 1 l0 (l0.length : Int) 0
set_option maxHeartbeats 8000000 in
set_option maxRecDepth 100000 in
theorem epicycleref04_Product.calls (k : Nat) (A0 : Option Addr) (c0 : Nat) (l0 : List (S146)) (a1 : Int) (r1 : Int) (r2 : Bool) (w : World) (hr0 : Kd.C k146 w A0 l0.length l0) (hc0 : l0.length ≤ c0) (h : epicycleref04_Product.f k l0 a1 = some (r1, r2)) :
  Calls Tryz.prog 149 #[.slice A0 l0.length c0, .int .u64 a1] w fun e w' => e = .returned (.tuple #[.int .u64 r1, .bool r2]) ∧ Below w.heap.size w w' := by
 have hu146 := Tryz.underlying146
 have HR0 := Aside0.mk hr0
 have HC0 := Aside0.mk hc0
 clear hr0 hc0
 have HB := Aside0.mk (Below.refl w.heap.size w)
 have H := h; unfold epicycleref04_Product.f at H
 clear h
 have H' := Aside0.mk H
 clear H
 go_enter Tryz.func149, Tryz.ntmps149
 go_wp2
 go_loopg [6, 12] k (fun kq v6 v12 w' => ∃ (x6_1 : Int) (x12_1 : Int), v6 = .int .u64 x6_1 ∧ v12 = .int .i64 x12_1 ∧ Aside0 (epicycleref04_Product.l0 kq a1 x6_1 l0 (l0.length : Int) x12_1 = some (r1, r2)) ∧ Aside0 (kq ≤ k) ∧ Aside0 (Below w.heap.size w w'))
 case atStart => exact ⟨(1), (0), eq_, eq_, H', ⟨Nat.le_refl _⟩, ⟨bel_⟩⟩
 case round =>
  clear H'
  obtain ⟨x6_1, x12_1, rfl, rfl, HA, HK1, HB⟩ := hrel
  cases gk with
  | zero => exact absurd HA.out (by simp [epicycleref04_Product.l0])
  | succ k1 =>
   have H := HA.out
   clear HA
   simp only [epicycleref04_Product.l0] at H
   by_cases c3 : x12_1 < (l0.length : Int)
   ·rw [if_pos c3] at H
    have c3b0 := decide_eq_true c3
    clear c3
    by_cases c4 : 0 ≤ x12_1
    ·rw [if_pos c4] at H
     have c4b0 := decide_eq_true c4
     clear c4
     by_cases c5 : x12_1 < (l0.length : Int)
     ·rw [if_pos c5] at H
      have c5b0 := decide_eq_true c5
      clear c5
      have HC6 := Aside0.mk H
      clear H
      have p103 : 0 ≤ (x12_1 : Int) := of_decide_eq_true (by assumption)
      have q103 : x12_1 < (l0.length : Int) := of_decide_eq_true (by assumption)
      obtain ⟨ad103, e103, hx103_0, hx103_1⟩ := at_T146 HR0.out x12_1 p103 q103
      cases e103
      replace hx103_0 := hb_ HB.out hx103_0
      replace hx103_1 := hb_ HB.out hx103_1
      replace p103 := eq_true p103
      replace q103 := eq_true q103
      go_upto_region 5 with (first | ((with_reducible refine gate_dst (N := 8) rfl ?_); refine be_ 8 #[.int .u64 0, .int .i64 0] 146 ?_; intro gb104 hg w7 hbox hb; have n0_ := Aside0.mk (below_step bel_ hb); have n1_ := Aside0.mk (hbox); have n2_ := Aside0.mk ((by rw [hg]; exact (below_size bel_) : w.heap.size ≤ gb104)); have n3_ := Aside0.mk ((by rw [hg]; exact (below_size bel_) : w.heap.size ≤ gb104)); clear HB; have HB := n0_; have BK104 := n1_; have GW104 := n2_; have GE104 := n3_; clear n0_ n1_ n2_ n3_; clear hb hbox hg; have hcz8_0 := bc_ BK104.out 0 rfl; have hcz8_1 := bc_ BK104.out 1 rfl; have hfz8_0 := blk_frozen BK104.out 0; have hfz8_1 := blk_frozen BK104.out 1))
      (try simp only [Act.put, List.setIfInBounds_toArray, List.set_cons_zero, List.set_cons_succ])
      go_cut [28] (fun v28 wc => ∃ (kq : Nat) (x28_5 : Bool), v28 = .bool x28_5 ∧ Aside0 (epicycleref04_Product.j1 kq a1 x6_1 l0 (l0.length : Int) x12_1 x28_5 ((rd_T146 l0 x12_1).f0) ((rd_T146 l0 x12_1).f1) = some (r1, r2)) ∧ Aside0 (kq ≤ k1) ∧ Aside0 (wc.heap[gb104]? = some (.cells #[.int .u64 ((rd_T146 l0 x12_1).f0), .int .i64 ((rd_T146 l0 x12_1).f1)] 146 (0, 0))) ∧ Aside0 (Below w.heap.size w wc))
      case first =>
       have H := HC6.out
       clear HC6
       by_cases c9 : ((rd_T146 l0 x12_1).f1) < 1
       ·rw [if_pos c9] at H
        have c9b0 := decide_eq_true c9
        clear c9
        (first | rw [c9b0] | (simp only [i64_w, i32_w]; rw [c9b0]) | skip)
        have H' := Aside0.mk H
        clear H
        have hcz10_0 := bc_ BK104.out 0 rfl
        have hcz10_1 := bc_ BK104.out 1 rfl
        have hfz10_0 := blk_frozen BK104.out 0
        have hfz10_1 := blk_frozen BK104.out 1
        go_wp2
        go_meet
        case rel => exact ⟨_, (true), eq_, H', ⟨by have := HK1.out; first | omega | exact Nat.le_refl _⟩, ⟨blk_put (blk_put BK104.out 0 _ rfl) 1 _ rfl⟩, ⟨bel_⟩⟩
       ·rw [if_neg c9] at H
        have c9b0 := decide_eq_false c9
        clear c9
        (first | rw [c9b0] | (simp only [i64_w, i32_w]; rw [c9b0]) | skip)
        by_cases c11 : ((rd_T146 l0 x12_1).f1) > 62
        ·rw [if_pos c11] at H
         have c11b0 := decide_eq_true c11
         clear c11
         have H' := Aside0.mk H
         clear H
         have hcz12_0 := bc_ BK104.out 0 rfl
         have hcz12_1 := bc_ BK104.out 1 rfl
         have hfz12_0 := blk_frozen BK104.out 0
         have hfz12_1 := blk_frozen BK104.out 1
         go_wp2
         go_meet
         case rel => exact ⟨_, (true), eq_, H', ⟨by have := HK1.out; first | omega | exact Nat.le_refl _⟩, ⟨blk_put (blk_put BK104.out 0 _ rfl) 1 _ rfl⟩, ⟨bel_⟩⟩
        ·rw [if_neg c11] at H
         have c11b0 := decide_eq_false c11
         clear c11
         have H' := Aside0.mk H
         clear H
         have hcz13_0 := bc_ BK104.out 0 rfl
         have hcz13_1 := bc_ BK104.out 1 rfl
         have hfz13_0 := blk_frozen BK104.out 0
         have hfz13_1 := blk_frozen BK104.out 1
         go_wp2
         go_meet
         case rel => exact ⟨_, (decide (((rd_T146 l0 x12_1).f0) < 2)), eq_, H', ⟨by have := HK1.out; first | omega | exact Nat.le_refl _⟩, ⟨blk_put (blk_put BK104.out 0 _ rfl) 1 _ rfl⟩, ⟨bel_⟩⟩
      case rest =>
       clear HC6
       try clear hx1
       try clear hx10
       try clear hx103_0
       try clear hx103_1
       obtain ⟨kq, x28_5, rfl, HA, HJ5, BK104, HB⟩ := hcut
       cases kq with
       | zero => exact absurd HA.out (by simp [epicycleref04_Product.j1])
       | succ kj5 =>
        have H := HA.out
        clear HA
        simp only [epicycleref04_Product.j1] at H
        by_cases c14 : x28_5 = true
        ·subst c14
         have H1 := H; rw [if_pos rfl] at H1
         clear H
         have H := H1
         clear H1
         simp only [Option.some.injEq, Prod.mk.injEq] at H
         obtain ⟨rfl, rfl⟩ := H
         go_wp2
         go_ret2
         exact ⟨eq_, bel_⟩
        ·replace c14 := Bool.eq_false_iff.mpr c14
         subst c14
         have H1 := H; rw [if_neg (show ¬ (false = true) by decide)] at H1
         clear H
         have H := H1
         clear H1
         have H' := Aside0.mk H
         clear H
         go_wp2
         go_loopg [6, 9] kj5 (fun kq v6 v9 w' => ∃ (x6_3 : Int) (x9_3 : Int), v6 = .int .u64 x6_3 ∧ v9 = .int .i64 x9_3 ∧ Aside0 (epicycleref04_Product.l1 kq a1 x6_3 x9_3 l0 (l0.length : Int) x12_1 ((rd_T146 l0 x12_1).f0) ((rd_T146 l0 x12_1).f1) = some (r1, r2)) ∧ Aside0 (kq ≤ kj5) ∧ Aside0 (w'.heap[gb104]? = some (.cells #[.int .u64 ((rd_T146 l0 x12_1).f0), .int .i64 ((rd_T146 l0 x12_1).f1)] 146 (0, 0))) ∧ Aside0 (Below w.heap.size w w'))
         case atStart => exact ⟨(x6_1), (0), eq_, eq_, H', ⟨Nat.le_refl _⟩, ⟨blkx_ BK104.out⟩, ⟨bel_⟩⟩
         case round =>
          clear H'
          try clear hx1
          try clear hx10
          try clear hx103_0
          try clear hx103_1
          obtain ⟨x6_3, x9_3, rfl, rfl, HA, HK3, BK104, HB⟩ := hrel
          cases gk with
          | zero => exact absurd HA.out (by simp [epicycleref04_Product.l1])
          | succ k3 =>
           have H := HA.out
           clear HA
           simp only [epicycleref04_Product.l1] at H
           by_cases c15 : x9_3 < ((rd_T146 l0 x12_1).f1)
           ·rw [if_pos c15] at H
            have c15b0 := decide_eq_true c15
            clear c15
            by_cases c16 : ((rd_T146 l0 x12_1).f0) = 0
            ·rw [if_pos c16] at H
             exact absurd H (by simp)
            ·rw [if_neg c16] at H
             have c16b0 := beq_eq_false_iff_ne.mpr c16
             have c16b1 := bne_iff_ne.mpr c16
             by_cases c17 : x6_3 > (IntKind.u64.wrap (Int.tdiv a1 ((rd_T146 l0 x12_1).f0)))
             ·rw [if_pos c17] at H
              have c17b0 := decide_eq_true c17
              clear c17
              simp only [Option.some.injEq, Prod.mk.injEq] at H
              obtain ⟨rfl, rfl⟩ := H
              have hcz18_0 := bc_ BK104.out 0 rfl
              have hcz18_1 := bc_ BK104.out 1 rfl
              have hfz18_0 := blk_frozen BK104.out 0
              have hfz18_1 := blk_frozen BK104.out 1
              go_wp2
              go_ret2
              exact ⟨eq_, bel_⟩
             ·rw [if_neg c17] at H
              have c17b0 := decide_eq_false c17
              clear c17
              have H' := Aside0.mk H
              clear H
              have hcz19_0 := bc_ BK104.out 0 rfl
              have hcz19_1 := bc_ BK104.out 1 rfl
              have hfz19_0 := blk_frozen BK104.out 0
              have hfz19_1 := blk_frozen BK104.out 1
              go_wp2
              go_roundg k3
              case measure => have := HK1.out; have := HJ5.out; have := HK3.out; omega
              case rel => exact ⟨(IntKind.u64.wrap (x6_3 * ((rd_T146 l0 x12_1).f0))), (wrap64 (x9_3 + 1)), eq_, eq_, H', ⟨by have := HK1.out; have := HJ5.out; have := HK3.out; omega⟩, ⟨blkx_ BK104.out⟩, ⟨bel_⟩⟩
           ·rw [if_neg c15] at H
            have c15b0 := decide_eq_false c15
            clear c15
            have H' := Aside0.mk H
            clear H
            have hcz20_0 := bc_ BK104.out 0 rfl
            have hcz20_1 := bc_ BK104.out 1 rfl
            have hfz20_0 := blk_frozen BK104.out 0
            have hfz20_1 := blk_frozen BK104.out 1
            go_wp2
            go_roundg k3
            case measure => have := HK1.out; have := HJ5.out; have := HK3.out; omega
            case rel => exact ⟨(x6_3), (wrap64 (x12_1 + 1)), eq_, eq_, H', ⟨by have := HK1.out; have := HJ5.out; have := HK3.out; omega⟩, ⟨bel_⟩⟩
     ·rw [if_neg c5] at H
      exact absurd H (by simp)
    ·rw [if_neg c4] at H
     exact absurd H (by simp)
   ·rw [if_neg c3] at H
    have c3b0 := decide_eq_false c3
    clear c3
    simp only [Option.some.injEq, Prod.mk.injEq] at H
    obtain ⟨rfl, rfl⟩ := H
    go_wp2
    go_ret2
    exact ⟨eq_, bel_⟩
end Go.Proofs.YtndkmnjbjlfeaaaGreat.XR
end
section
namespace Go.Proofs.YtndkmnjbjlfeaaaGreat.XR
open Go.RowKit Go.Proofs.YtndkmnjbjlfeaaaGreat.Given Go.Proofs.YtndkmnjbjlfeaaaGreat.XS Go.Proofs.YtndkmnjbjlfeaaaGreatW.PrintWords Go.Proofs.YtndkmnjbjlfeaaaGreatW.PrintLast Go.Proofs.YtndkmnjbjlfeaaaGreatW.PrintMore
attribute [local go_sem] max2_int min2_int max_two min_two max_three min_three max_four min_four   -- for this text's walks alone
set_option linter.unusedVariables false
set_option linter.unusedSimpArgs false
mutual
def epicycleref04_Right.j0 : Nat → List (S134) → Int → Bool → Int → Int → List (S146) → Option (Bool)
 | 0, _, _, _, _, _, _ => none
 | k + 1, x0, x1, x43, x107000, x107001, x107002 => if x43 = true then (some false) else (if (x107002.length : Int) < 1 then (epicycleref04_Right.j1 k x0 x1 true x107000 x107001 x107002) else (if (x107002.length : Int) > 16 then (epicycleref04_Right.j1 k x0 x1 true x107000 x107001 x107002) else (if 0 < (x107002.length : Int) then (epicycleref04_Right.j1 k x0 x1 (((rd_T146 x107002 0).f0) != 2) x107000 x107001 x107002) else (none))))
def epicycleref04_Right.j1 : Nat → List (S134) → Int → Bool → Int → Int → List (S146) → Option (Bool)
 | 0, _, _, _, _, _, _ => none
 | k + 1, x0, x1, x61, x107000, x107001, x107002 => if x61 = true then (some false) else (epicycleref04_Right.l0 k x0 x1 1 x107000 x107001 x107002)
def epicycleref04_Right.l0 : Nat → List (S134) → Int → Int → Int → Int → List (S146) → Option (Bool)
 | 0, _, _, _, _, _, _ => none
 | k + 1, x0, x1, x6, x107000, x107001, x107002 => if x6 < (x107002.length : Int) then (if 0 ≤ x6 then (if 0 ≤ (wrap64 (x6 - 1)) then (if (wrap64 (x6 - 1)) < (x107002.length : Int) then (if ((rd_T146 x107002 x6).f0) ≤ ((rd_T146 x107002 (wrap64 (x6 - 1))).f0) then (epicycleref04_Right.j3 k x0 x1 x6 true x107000 x107001 x107002) else (if 0 ≤ x1 then (if x1 ≤ (x0.length : Int) then ((epicycleref04_Claimed.f k (x0.take (x1 : Int).toNat) ((rd_T146 x107002 x6).f0)).bind fun t116 => (epicycleref04_Right.j3 k x0 x1 x6 (!t116) x107000 x107001 x107002)) else (none)) else (none))) else (none)) else (none)) else (none)) else ((epicycleref04_Product.f k x107002 (IntKind.u64.wrap (x107000 - 1))).bind fun bt117 => (if bt117.2 = true then (if bt117.1 = (IntKind.u64.wrap (x107000 - 1)) then (if x107001 < 2 then (epicycleref04_Right.j4 k true x107000 x107001 x107002) else (if x107001 ≥ x107000 then (epicycleref04_Right.j4 k true x107000 x107001 x107002) else ((epicycleref02_Pow.f k x107001 (IntKind.u64.wrap (x107000 - 1)) x107000).bind fun t119 => (epicycleref04_Right.j4 k (t119 != 1) x107000 x107001 x107002)))) else (epicycleref04_Right.j4 k true x107000 x107001 x107002)) else (epicycleref04_Right.j4 k true x107000 x107001 x107002)))
def epicycleref04_Right.j3 : Nat → List (S134) → Int → Int → Bool → Int → Int → List (S146) → Option (Bool)
 | 0, _, _, _, _, _, _, _ => none
 | k + 1, x0, x1, x6, x95, x107000, x107001, x107002 => if x95 = true then (some false) else (epicycleref04_Right.l0 k x0 x1 (wrap64 (x6 + 1)) x107000 x107001 x107002)
def epicycleref04_Right.j4 : Nat → Bool → Int → Int → List (S146) → Option (Bool)
 | 0, _, _, _, _ => none
 | k + 1, x136, x107000, x107001, x107002 => if x136 = true then (some false) else (epicycleref04_Right.l1 k x107002 (x107002.length : Int) 0 x107000 x107001 x107002)
def epicycleref04_Right.l1 : Nat → List (S146) → Int → Int → Int → Int → List (S146) → Option (Bool)
 | 0, _, _, _, _, _, _ => none
 | k + 1, x138, x139, x140, x107000, x107001, x107002 => if x140 < x139 then (if 0 ≤ x140 then (if x140 < (x138.length : Int) then (if ((rd_T146 x138 x140).f0) = 0 then (none) else ((epicycleref02_Pow.f k x107001 (IntKind.u64.wrap (Int.tdiv (IntKind.u64.wrap (x107000 - 1)) ((rd_T146 x138 x140).f0))) x107000).bind fun t122 => (if t122 = 1 then (some false) else (epicycleref04_Right.l1 k x138 x139 (wrap64 (x140 + 1)) x107000 x107001 x107002)))) else (none)) else (none)) else (some true)
end
def epicycleref04_Right.f (k : Nat) (l0 : List (S134)) (a1 : Int) : Option (Bool) := if 0 ≤ a1 then (if a1 < (l0.length : Int) then (if (Int.tmod ((rd_T134 l0 a1).f0) 2) = 0 then (epicycleref04_Right.j0 k l0 a1 true ((rd_T134 l0 a1).f0) ((rd_T134 l0 a1).f1) ((rd_T134 l0 a1).f2)) else (if ((rd_T134 l0 a1).f0) < 3 then (epicycleref04_Right.j0 k l0 a1 true ((rd_T134 l0 a1).f0) ((rd_T134 l0 a1).f1) ((rd_T134 l0 a1).f2)) else (if ((rd_T134 l0 a1).f0) > 9223372036854775807 then (epicycleref04_Right.j0 k l0 a1 true ((rd_T134 l0 a1).f0) ((rd_T134 l0 a1).f1) ((rd_T134 l0 a1).f2)) else (if a1 > 0 then (if 0 ≤ (wrap64 (a1 - 1)) then (if (wrap64 (a1 - 1)) < (l0.length : Int) then (epicycleref04_Right.j0 k l0 a1 (decide (((rd_T134 l0 (wrap64 (a1 - 1))).f0) ≥ ((rd_T134 l0 a1).f0))) ((rd_T134 l0 a1).f0) ((rd_T134 l0 a1).f1) ((rd_T134 l0 a1).f2)) else (none)) else (none)) else (epicycleref04_Right.j0 k l0 a1 false ((rd_T134 l0 a1).f0) ((rd_T134 l0 a1).f1) ((rd_T134 l0 a1).f2)))))) else (none)) else (none)
def epicycleref04_Right.T9 : Bool × List (List Nat × List Nat) := (true, [([], []), ([0], [0]), ([], []), ([1, 2], [1, 2]), ([3], [3]), ([4], [4]), ([], []), ([6], [6]), ([], []), ([8], [8]), ([7, 9], [7, 9]), ([10], [10]), ([11], [11]), ([5, 12], [5, 12]), ([13], [13]), ([14], [14]), ([14], [14]), ([15, 16, 14], [14, 15, 16]), ([14], [14]), ([18, 14], [14, 18]), ([14], [14]), ([19, 20, 14], [14, 19, 20]), ([21, 14], [14, 21]), ([22, 14], [14, 22]), ([17, 23, 14, 14], [14, 17, 23]), ([24, 14], [14, 24]), ([14, 25], [14, 25])])
def epicycleref04_Right.B9 : List Nat := [0, 1, 0, 7, 15, 31, 0, 64, 0, 256, 960, 1984, 4032, 8191, 16383, 32767, 32767, 131071, 32767, 294911, 32767, 1867775, 3964927, 8159231, 16777215, 33554431, 67108863]
theorem epicycleref04_Right.tab9 : rtab .any (opsOf Tryz.f122 9) = epicycleref04_Right.T9 := by kernel_rfl
theorem epicycleref04_Right.bits9 : waitsOk epicycleref04_Right.T9.2 epicycleref04_Right.B9 = true := by kernel_rfl
set_option maxHeartbeats 8000000 in
set_option maxRecDepth 100000 in
theorem epicycleref04_Right.calls (k : Nat) (A0 : Option Addr) (c0 : Nat) (l0 : List (S134)) (a1 : Int) (r : Bool) (w : World) (hr0 : Kd.C k134 w A0 l0.length l0) (hc0 : l0.length ≤ c0) (h : epicycleref04_Right.f k l0 a1 = some r) :
  Calls Tryz.prog 122 #[.slice A0 l0.length c0, .int .i64 a1] w fun e w' => e = .returned (.bool r) ∧ Below w.heap.size w w' := by
 have hu134 := Tryz.underlying134
 have hu146 := Tryz.underlying146
 have HR0 := Aside0.mk hr0
 have HC0 := Aside0.mk hc0
 clear hr0 hc0
 have HB := Aside0.mk (Below.refl w.heap.size w)
 have H := h; unfold epicycleref04_Right.f at H
 clear h
 by_cases c3 : 0 ≤ a1
 ·rw [if_pos c3] at H
  have c3b0 := decide_eq_true c3
  clear c3
  by_cases c4 : a1 < (l0.length : Int)
  ·rw [if_pos c4] at H
   have c4b0 := decide_eq_true c4
   clear c4
   have HC5 := Aside0.mk H
   clear H
   have p105 : 0 ≤ (a1 : Int) := of_decide_eq_true (by assumption)
   have q105 : a1 < (l0.length : Int) := of_decide_eq_true (by assumption)
   obtain ⟨ad105, A105_2, c105_2, e105, hx105_0, hx105_1, hx105_2, hl105_2, hi105_2⟩ := at_T134 HR0.out a1 p105 q105
   cases e105
   have HR105_2 := Aside0.mk hi105_2
   have HC105_2 := Aside0.mk hl105_2
   clear hi105_2 hl105_2
   replace p105 := eq_true p105
   replace q105 := eq_true q105
   go_enter Tryz.func122, Tryz.ntmps122
   go_upto_region 2 with (first | ((with_reducible refine gate_dst (N := 5) rfl ?_); (try (refine gate_guard (by rfl) ?_; dsimp only)); refine be_ 5 #[.int .u64 0, .int .u64 0, .slice none 0 0] 134 ?_; intro gb106 hg w6 hbox hb; have n0_ := Aside0.mk (below_step bel_ hb); have n1_ := Aside0.mk (hbox); have n2_ := Aside0.mk ((by rw [hg]; exact (below_size bel_) : w.heap.size ≤ gb106)); have n3_ := Aside0.mk ((by rw [hg]; exact (below_size bel_) : w.heap.size ≤ gb106)); clear HB; have HB := n0_; have BK106 := n1_; have GW106 := n2_; have GE106 := n3_; clear n0_ n1_ n2_ n3_; clear hb hbox hg; have hcz7_0 := bc_ BK106.out 0 rfl; have hcz7_1 := bc_ BK106.out 1 rfl; have hcz7_2 := bc_ BK106.out 2 rfl; have hfz7_0 := blk_frozen BK106.out 0; have hfz7_1 := blk_frozen BK106.out 1; have hfz7_2 := blk_frozen BK106.out 2))
   (try simp only [Act.put, List.setIfInBounds_toArray, List.set_cons_zero, List.set_cons_succ])
   go_cut [43] (fun v43 wc => ∃ (kq : Nat) (x43_4 : Bool), v43 = .bool x43_4 ∧ Aside0 (epicycleref04_Right.j0 kq l0 a1 x43_4 ((rd_T134 l0 a1).f0) ((rd_T134 l0 a1).f1) ((rd_T134 l0 a1).f2) = some r) ∧ Aside0 (kq ≤ k) ∧ Aside0 (wc.heap[gb106]? = some (.cells #[.int .u64 ((rd_T134 l0 a1).f0), .int .u64 ((rd_T134 l0 a1).f1), (.slice A105_2 ((rd_T134 l0 a1).f2).length c105_2)] 134 (0, 0))) ∧ Aside0 (Below w.heap.size w wc))
   case first =>
    have H := HC5.out
    clear HC5
    by_cases c8 : (Int.tmod ((rd_T134 l0 a1).f0) 2) = 0
    ·rw [if_pos c8] at H
     have c8b0 := beq_iff_eq.mpr c8
     have c8b1 := bne_eq_false_iff_eq.mpr c8
     clear c8
     (first | rw [c8b0] | (simp only [i64_w, i32_w]; rw [c8b0]) | skip)
     have H' := Aside0.mk H
     clear H
     try go_wp2
     have n0_ : Aside0 ((((w6.setCell ⟨gb106, 0, none⟩ (.int .u64 ((rd_T134 l0 a1).f0))).setCell ⟨gb106, 1, none⟩ (.int .u64 ((rd_T134 l0 a1).f1))).setCell ⟨gb106, 2, none⟩ (.slice A105_2 ((rd_T134 l0 a1).f2).length c105_2)).heap[gb106]? = some (.cells #[.int .u64 ((rd_T134 l0 a1).f0), .int .u64 ((rd_T134 l0 a1).f1), .slice A105_2 ((rd_T134 l0 a1).f2).length c105_2] 134 (0, 0))) := ⟨blk_put (blk_put (blk_put BK106.out 0 _ rfl) 1 _ rfl) 2 _ rfl⟩
     have n1_ : Aside0 (Below w.heap.size w (((w6.setCell ⟨gb106, 0, none⟩ (.int .u64 ((rd_T134 l0 a1).f0))).setCell ⟨gb106, 1, none⟩ (.int .u64 ((rd_T134 l0 a1).f1))).setCell ⟨gb106, 2, none⟩ (.slice A105_2 ((rd_T134 l0 a1).f2).length c105_2))) := ⟨bel_⟩
     (try clear BK106)
     (try clear HB)
     generalize (((w6.setCell ⟨gb106, 0, none⟩ (.int .u64 ((rd_T134 l0 a1).f0))).setCell ⟨gb106, 1, none⟩ (.int .u64 ((rd_T134 l0 a1).f1))).setCell ⟨gb106, 2, none⟩ (.slice A105_2 ((rd_T134 l0 a1).f2).length c105_2)) = w9 at n0_ n1_ ⊢
     have BK106 := n0_
     have HB := n1_
     clear n0_ n1_
     have hcq0_ : w9.cell? ⟨gb106, 0, none⟩ = some (.int .u64 ((rd_T134 l0 a1).f0)) := (blk_cell BK106.out 0).trans rfl
     have hfq0_ := blk_frozen BK106.out 0
     have hcq1_ : w9.cell? ⟨gb106, 1, none⟩ = some (.int .u64 ((rd_T134 l0 a1).f1)) := (blk_cell BK106.out 1).trans rfl
     have hfq1_ := blk_frozen BK106.out 1
     have hcq2_ : w9.cell? ⟨gb106, 2, none⟩ = some (.slice A105_2 ((rd_T134 l0 a1).f2).length c105_2) := (blk_cell BK106.out 2).trans rfl
     have hfq2_ := blk_frozen BK106.out 2
     go_quiet (fail)
     try go_wp2
     go_meet
     case rel => exact ⟨_, (true), eq_, H', ⟨by first | omega | exact Nat.le_refl _⟩, ⟨blkx_ BK106.out⟩, ⟨bel_⟩⟩
    ·rw [if_neg c8] at H
     have c8b0 := beq_eq_false_iff_ne.mpr c8
     have c8b1 := bne_iff_ne.mpr c8
     (first | rw [c8b0] | (simp only [i64_w, i32_w]; rw [c8b0]) | skip)
     by_cases c11 : ((rd_T134 l0 a1).f0) < 3
     ·rw [if_pos c11] at H
      have c11b0 := decide_eq_true c11
      clear c11
      have H' := Aside0.mk H
      clear H
      try go_wp2
      have n0_ : Aside0 ((((w6.setCell ⟨gb106, 0, none⟩ (.int .u64 ((rd_T134 l0 a1).f0))).setCell ⟨gb106, 1, none⟩ (.int .u64 ((rd_T134 l0 a1).f1))).setCell ⟨gb106, 2, none⟩ (.slice A105_2 ((rd_T134 l0 a1).f2).length c105_2)).heap[gb106]? = some (.cells #[.int .u64 ((rd_T134 l0 a1).f0), .int .u64 ((rd_T134 l0 a1).f1), .slice A105_2 ((rd_T134 l0 a1).f2).length c105_2] 134 (0, 0))) := ⟨blk_put (blk_put (blk_put BK106.out 0 _ rfl) 1 _ rfl) 2 _ rfl⟩
      have n1_ : Aside0 (Below w.heap.size w (((w6.setCell ⟨gb106, 0, none⟩ (.int .u64 ((rd_T134 l0 a1).f0))).setCell ⟨gb106, 1, none⟩ (.int .u64 ((rd_T134 l0 a1).f1))).setCell ⟨gb106, 2, none⟩ (.slice A105_2 ((rd_T134 l0 a1).f2).length c105_2))) := ⟨bel_⟩
      (try clear BK106)
      (try clear HB)
      generalize (((w6.setCell ⟨gb106, 0, none⟩ (.int .u64 ((rd_T134 l0 a1).f0))).setCell ⟨gb106, 1, none⟩ (.int .u64 ((rd_T134 l0 a1).f1))).setCell ⟨gb106, 2, none⟩ (.slice A105_2 ((rd_T134 l0 a1).f2).length c105_2)) = w12 at n0_ n1_ ⊢
      have BK106 := n0_
      have HB := n1_
      clear n0_ n1_
      have hcq0_ : w12.cell? ⟨gb106, 0, none⟩ = some (.int .u64 ((rd_T134 l0 a1).f0)) := (blk_cell BK106.out 0).trans rfl
      have hfq0_ := blk_frozen BK106.out 0
      have hcq1_ : w12.cell? ⟨gb106, 1, none⟩ = some (.int .u64 ((rd_T134 l0 a1).f1)) := (blk_cell BK106.out 1).trans rfl
      have hfq1_ := blk_frozen BK106.out 1
      have hcq2_ : w12.cell? ⟨gb106, 2, none⟩ = some (.slice A105_2 ((rd_T134 l0 a1).f2).length c105_2) := (blk_cell BK106.out 2).trans rfl
      have hfq2_ := blk_frozen BK106.out 2
      go_quiet (fail)
      try go_wp2
      go_meet
      case rel => exact ⟨_, (true), eq_, H', ⟨by first | omega | exact Nat.le_refl _⟩, ⟨blkx_ BK106.out⟩, ⟨bel_⟩⟩
     ·rw [if_neg c11] at H
      have c11b0 := decide_eq_false c11
      clear c11
      by_cases c14 : ((rd_T134 l0 a1).f0) > 9223372036854775807
      ·rw [if_pos c14] at H
       have c14b0 := decide_eq_true c14
       clear c14
       have H' := Aside0.mk H
       clear H
       try go_wp2
       have n0_ : Aside0 ((((w6.setCell ⟨gb106, 0, none⟩ (.int .u64 ((rd_T134 l0 a1).f0))).setCell ⟨gb106, 1, none⟩ (.int .u64 ((rd_T134 l0 a1).f1))).setCell ⟨gb106, 2, none⟩ (.slice A105_2 ((rd_T134 l0 a1).f2).length c105_2)).heap[gb106]? = some (.cells #[.int .u64 ((rd_T134 l0 a1).f0), .int .u64 ((rd_T134 l0 a1).f1), .slice A105_2 ((rd_T134 l0 a1).f2).length c105_2] 134 (0, 0))) := ⟨blk_put (blk_put (blk_put BK106.out 0 _ rfl) 1 _ rfl) 2 _ rfl⟩
       have n1_ : Aside0 (Below w.heap.size w (((w6.setCell ⟨gb106, 0, none⟩ (.int .u64 ((rd_T134 l0 a1).f0))).setCell ⟨gb106, 1, none⟩ (.int .u64 ((rd_T134 l0 a1).f1))).setCell ⟨gb106, 2, none⟩ (.slice A105_2 ((rd_T134 l0 a1).f2).length c105_2))) := ⟨bel_⟩
       (try clear BK106)
       (try clear HB)
       generalize (((w6.setCell ⟨gb106, 0, none⟩ (.int .u64 ((rd_T134 l0 a1).f0))).setCell ⟨gb106, 1, none⟩ (.int .u64 ((rd_T134 l0 a1).f1))).setCell ⟨gb106, 2, none⟩ (.slice A105_2 ((rd_T134 l0 a1).f2).length c105_2)) = w15 at n0_ n1_ ⊢
       have BK106 := n0_
       have HB := n1_
       clear n0_ n1_
       have hcq0_ : w15.cell? ⟨gb106, 0, none⟩ = some (.int .u64 ((rd_T134 l0 a1).f0)) := (blk_cell BK106.out 0).trans rfl
       have hfq0_ := blk_frozen BK106.out 0
       have hcq1_ : w15.cell? ⟨gb106, 1, none⟩ = some (.int .u64 ((rd_T134 l0 a1).f1)) := (blk_cell BK106.out 1).trans rfl
       have hfq1_ := blk_frozen BK106.out 1
       have hcq2_ : w15.cell? ⟨gb106, 2, none⟩ = some (.slice A105_2 ((rd_T134 l0 a1).f2).length c105_2) := (blk_cell BK106.out 2).trans rfl
       have hfq2_ := blk_frozen BK106.out 2
       go_quiet (fail)
       try go_wp2
       go_meet
       case rel => exact ⟨_, (true), eq_, H', ⟨by first | omega | exact Nat.le_refl _⟩, ⟨blkx_ BK106.out⟩, ⟨bel_⟩⟩
      ·rw [if_neg c14] at H
       have c14b0 := decide_eq_false c14
       clear c14
       by_cases c17 : a1 > 0
       ·rw [if_pos c17] at H
        have c17b0 := decide_eq_true c17
        clear c17
        obtain ⟨ji18, hji18⟩ : ∃ j_ : Int, (wrap64 (a1 - 1)) = j_ := ⟨_, rfl⟩
        (first | rw [hji18] at H | simp only [hji18] at H)
        have hji18w : (IntKind.i64.wrap (a1 - 1)) = ji18 := (i64_w _).trans hji18
        by_cases c19 : 0 ≤ (ji18)
        ·rw [if_pos c19] at H
         have c19b0 := decide_eq_true c19
         clear c19
         by_cases c20 : (ji18) < (l0.length : Int)
         ·rw [if_pos c20] at H
          have c20b0 := decide_eq_true c20
          clear c20
          have H' := Aside0.mk H
          clear H
          try go_wp2
          have n0_ : Aside0 ((((w6.setCell ⟨gb106, 0, none⟩ (.int .u64 ((rd_T134 l0 a1).f0))).setCell ⟨gb106, 1, none⟩ (.int .u64 ((rd_T134 l0 a1).f1))).setCell ⟨gb106, 2, none⟩ (.slice A105_2 ((rd_T134 l0 a1).f2).length c105_2)).heap[gb106]? = some (.cells #[.int .u64 ((rd_T134 l0 a1).f0), .int .u64 ((rd_T134 l0 a1).f1), .slice A105_2 ((rd_T134 l0 a1).f2).length c105_2] 134 (0, 0))) := ⟨blk_put (blk_put (blk_put BK106.out 0 _ rfl) 1 _ rfl) 2 _ rfl⟩
          have n1_ : Aside0 (Below w.heap.size w (((w6.setCell ⟨gb106, 0, none⟩ (.int .u64 ((rd_T134 l0 a1).f0))).setCell ⟨gb106, 1, none⟩ (.int .u64 ((rd_T134 l0 a1).f1))).setCell ⟨gb106, 2, none⟩ (.slice A105_2 ((rd_T134 l0 a1).f2).length c105_2))) := ⟨bel_⟩
          (try clear BK106)
          (try clear HB)
          generalize (((w6.setCell ⟨gb106, 0, none⟩ (.int .u64 ((rd_T134 l0 a1).f0))).setCell ⟨gb106, 1, none⟩ (.int .u64 ((rd_T134 l0 a1).f1))).setCell ⟨gb106, 2, none⟩ (.slice A105_2 ((rd_T134 l0 a1).f2).length c105_2)) = w21 at n0_ n1_ ⊢
          have BK106 := n0_
          have HB := n1_
          clear n0_ n1_
          have p107 : 0 ≤ ((ji18) : Int) := of_decide_eq_true (by assumption)
          have q107 : (ji18) < (l0.length : Int) := of_decide_eq_true (by assumption)
          obtain ⟨ad107, A107_2, c107_2, e107, hx107_0, hx107_1, hx107_2, hl107_2, hi107_2⟩ := at_T134 HR0.out (ji18) p107 q107
          have hw107_2 := hx107_2
          have hw107_1 := hx107_1
          have hw107_0 := hx107_0
          obtain rfl : ad105 = ad107 := (by injection e107)
          replace hx107_0 := hb_ HB.out hx107_0
          replace hx107_1 := hb_ HB.out hx107_1
          replace hx107_2 := hb_ HB.out hx107_2
          have HR107_2 := Aside0.mk hi107_2
          have HC107_2 := Aside0.mk hl107_2
          clear hi107_2 hl107_2
          replace p107 := eq_true p107
          replace q107 := eq_true q107
          have hcq0_ : w21.cell? ⟨gb106, 0, none⟩ = some (.int .u64 ((rd_T134 l0 a1).f0)) := (blk_cell BK106.out 0).trans rfl
          have hfq0_ := blk_frozen BK106.out 0
          have hcq1_ : w21.cell? ⟨gb106, 1, none⟩ = some (.int .u64 ((rd_T134 l0 a1).f1)) := (blk_cell BK106.out 1).trans rfl
          have hfq1_ := blk_frozen BK106.out 1
          have hcq2_ : w21.cell? ⟨gb106, 2, none⟩ = some (.slice A105_2 ((rd_T134 l0 a1).f2).length c105_2) := (blk_cell BK106.out 2).trans rfl
          have hfq2_ := blk_frozen BK106.out 2
          have hcq3_ : w21.cell? (ad105.add (((ji18)).toNat * 3)) = some (.int .u64 ((rd_T134 l0 (ji18)).f0)) := (hb_ HB.out hw107_0)
          have hcq4_ : w21.cell? ⟨(ad105.add (((ji18)).toNat * 3)).block, (ad105.add (((ji18)).toNat * 3)).off + 1, none⟩ = some (.int .u64 ((rd_T134 l0 (ji18)).f1)) := (hb_ HB.out hw107_1)
          have hcq5_ : w21.cell? ⟨(ad105.add (((ji18)).toNat * 3)).block, (ad105.add (((ji18)).toNat * 3)).off + 2, none⟩ = some (.slice A107_2 ((rd_T134 l0 (ji18)).f2).length c107_2) := (hb_ HB.out hw107_2)
          go_quiet (fail)
          try go_wp2
          go_meet
          case rel => exact ⟨_, (decide (((rd_T134 l0 (ji18)).f0) ≥ ((rd_T134 l0 a1).f0))), (by first | rfl | (simp; done) | (simp only [← hji18] <;> (first | rfl | simp)) | (simp [*]; done)), H', ⟨by first | omega | exact Nat.le_refl _⟩, ⟨blkx_ BK106.out⟩, ⟨bel_⟩⟩
         ·rw [if_neg c20] at H
          exact absurd H (by simp)
        ·rw [if_neg c19] at H
         exact absurd H (by simp)
       ·rw [if_neg c17] at H
        have c17b0 := decide_eq_false c17
        clear c17
        have H' := Aside0.mk H
        clear H
        try go_wp2
        have n0_ : Aside0 ((((w6.setCell ⟨gb106, 0, none⟩ (.int .u64 ((rd_T134 l0 a1).f0))).setCell ⟨gb106, 1, none⟩ (.int .u64 ((rd_T134 l0 a1).f1))).setCell ⟨gb106, 2, none⟩ (.slice A105_2 ((rd_T134 l0 a1).f2).length c105_2)).heap[gb106]? = some (.cells #[.int .u64 ((rd_T134 l0 a1).f0), .int .u64 ((rd_T134 l0 a1).f1), .slice A105_2 ((rd_T134 l0 a1).f2).length c105_2] 134 (0, 0))) := ⟨blk_put (blk_put (blk_put BK106.out 0 _ rfl) 1 _ rfl) 2 _ rfl⟩
        have n1_ : Aside0 (Below w.heap.size w (((w6.setCell ⟨gb106, 0, none⟩ (.int .u64 ((rd_T134 l0 a1).f0))).setCell ⟨gb106, 1, none⟩ (.int .u64 ((rd_T134 l0 a1).f1))).setCell ⟨gb106, 2, none⟩ (.slice A105_2 ((rd_T134 l0 a1).f2).length c105_2))) := ⟨bel_⟩
        (try clear BK106)
        (try clear HB)
        generalize (((w6.setCell ⟨gb106, 0, none⟩ (.int .u64 ((rd_T134 l0 a1).f0))).setCell ⟨gb106, 1, none⟩ (.int .u64 ((rd_T134 l0 a1).f1))).setCell ⟨gb106, 2, none⟩ (.slice A105_2 ((rd_T134 l0 a1).f2).length c105_2)) = w23 at n0_ n1_ ⊢
        have BK106 := n0_
        have HB := n1_
        clear n0_ n1_
        have hcq0_ : w23.cell? ⟨gb106, 0, none⟩ = some (.int .u64 ((rd_T134 l0 a1).f0)) := (blk_cell BK106.out 0).trans rfl
        have hfq0_ := blk_frozen BK106.out 0
        have hcq1_ : w23.cell? ⟨gb106, 1, none⟩ = some (.int .u64 ((rd_T134 l0 a1).f1)) := (blk_cell BK106.out 1).trans rfl
        have hfq1_ := blk_frozen BK106.out 1
        have hcq2_ : w23.cell? ⟨gb106, 2, none⟩ = some (.slice A105_2 ((rd_T134 l0 a1).f2).length c105_2) := (blk_cell BK106.out 2).trans rfl
        have hfq2_ := blk_frozen BK106.out 2
        go_quiet (fail)
        try go_wp2
        go_meet
        case rel => exact ⟨_, (false), eq_, H', ⟨by first | omega | exact Nat.le_refl _⟩, ⟨blkx_ BK106.out⟩, ⟨bel_⟩⟩
   case rest =>
    clear HC5
    try clear hx1
    try clear hx10
    try clear hx107_0
    try clear hx107_1
    try clear hx107_2
    obtain ⟨kq, x43_4, rfl, HA, HJ4, BK106, HB⟩ := hcut
    cases kq with
    | zero => exact absurd HA.out (by simp [epicycleref04_Right.j0])
    | succ kj4 =>
     have H := HA.out
     clear HA
     simp only [epicycleref04_Right.j0] at H
     by_cases c25 : x43_4 = true
     ·subst c25
      have H1 := H; rw [if_pos rfl] at H1
      clear H
      have H := H1
      clear H1
      obtain rfl := Option.some.inj H
      go_wp2
      go_ret
      exact ⟨eq_, bel_⟩
     ·replace c25 := Bool.eq_false_iff.mpr c25
      subst c25
      have H1 := H; rw [if_neg (show ¬ (false = true) by decide)] at H1
      clear H
      have H := H1
      clear H1
      have HC26 := Aside0.mk H
      clear H
      go_upto_region 4 with (fail)
      go_cut [61] (fun v61 wc => ∃ (kq : Nat) (x61_25 : Bool), v61 = .bool x61_25 ∧ Aside0 (epicycleref04_Right.j1 kq l0 a1 x61_25 ((rd_T134 l0 a1).f0) ((rd_T134 l0 a1).f1) ((rd_T134 l0 a1).f2) = some r) ∧ Aside0 (kq ≤ kj4) ∧ Aside0 (wc.heap[gb106]? = some (.cells #[.int .u64 ((rd_T134 l0 a1).f0), .int .u64 ((rd_T134 l0 a1).f1), (.slice A105_2 ((rd_T134 l0 a1).f2).length c105_2)] 134 (0, 0))) ∧ Aside0 (Below w.heap.size w wc))
      case first =>
       have H := HC26.out
       clear HC26
       by_cases c27 : (((rd_T134 l0 a1).f2).length : Int) < 1
       ·rw [if_pos c27] at H
        have c27b0 := decide_eq_true c27
        have c27b1 : decide (((rd_T134 l0 a1).f2).length < 1) = true := decide_eq_true (by omega)
        clear c27
        (first | rw [c27b0] | (simp only [i64_w, i32_w]; rw [c27b0]) | skip)
        have H' := Aside0.mk H
        clear H
        have hcz28_0 := bc_ BK106.out 0 rfl
        have hcz28_1 := bc_ BK106.out 1 rfl
        have hcz28_2 := bc_ BK106.out 2 rfl
        have hfz28_0 := blk_frozen BK106.out 0
        have hfz28_1 := blk_frozen BK106.out 1
        have hfz28_2 := blk_frozen BK106.out 2
        go_wp2
        go_meet
        case rel => exact ⟨_, (true), eq_, H', ⟨by have := HJ4.out; first | omega | exact Nat.le_refl _⟩, ⟨blkx_ BK106.out⟩, ⟨bel_⟩⟩
       ·rw [if_neg c27] at H
        have c27b0 := decide_eq_false c27
        have c27b1 : decide (((rd_T134 l0 a1).f2).length < 1) = false := decide_eq_false (by omega)
        clear c27
        (first | rw [c27b0] | (simp only [i64_w, i32_w]; rw [c27b0]) | skip)
        by_cases c29 : (((rd_T134 l0 a1).f2).length : Int) > 16
        ·rw [if_pos c29] at H
         have c29b0 := decide_eq_true c29
         have c29b1 : decide (16 < ((rd_T134 l0 a1).f2).length) = true := decide_eq_true (by omega)
         clear c29
         have H' := Aside0.mk H
         clear H
         have hcz30_0 := bc_ BK106.out 0 rfl
         have hcz30_1 := bc_ BK106.out 1 rfl
         have hcz30_2 := bc_ BK106.out 2 rfl
         have hfz30_0 := blk_frozen BK106.out 0
         have hfz30_1 := blk_frozen BK106.out 1
         have hfz30_2 := blk_frozen BK106.out 2
         go_wp2
         go_meet
         case rel => exact ⟨_, (true), eq_, H', ⟨by have := HJ4.out; first | omega | exact Nat.le_refl _⟩, ⟨blkx_ BK106.out⟩, ⟨bel_⟩⟩
        ·rw [if_neg c29] at H
         have c29b0 := decide_eq_false c29
         have c29b1 : decide (16 < ((rd_T134 l0 a1).f2).length) = false := decide_eq_false (by omega)
         clear c29
         by_cases c31 : 0 < (((rd_T134 l0 a1).f2).length : Int)
         ·rw [if_pos c31] at H
          have c31b0 := decide_eq_true c31
          have c31b1 : decide (0 < ((rd_T134 l0 a1).f2).length) = true := decide_eq_true (by omega)
          clear c31
          have H' := Aside0.mk H
          clear H
          have hcz32_0 := bc_ BK106.out 0 rfl
          have hcz32_1 := bc_ BK106.out 1 rfl
          have hcz32_2 := bc_ BK106.out 2 rfl
          have hfz32_0 := blk_frozen BK106.out 0
          have hfz32_1 := blk_frozen BK106.out 1
          have hfz32_2 := blk_frozen BK106.out 2
          have p108 : 0 ≤ (0 : Int) := (by omega)
          have q108 : 0 < (((rd_T134 l0 a1).f2).length : Int) := of_decide_eq_true (by assumption)
          obtain ⟨ad108, e108, hx108_0, hx108_1⟩ := at_T146 HR105_2.out 0 p108 q108
          cases e108
          have qi108 : (0 < ((rd_T134 l0 a1).f2).length) = True := eq_true (by omega)
          (try rw [show ((0 : Int)).toNat = 0 from rfl] at hx108_0)
          (try rw [show 0 * 2 = 0 from rfl] at hx108_0)
          (try rw [Addr.add_zero'] at hx108_0)
          (try rw [show ((0 : Int)).toNat = 0 from rfl] at hx108_1)
          (try rw [show 0 * 2 = 0 from rfl] at hx108_1)
          (try rw [Addr.add_zero'] at hx108_1)
          replace hx108_0 := hb_ HB.out hx108_0
          replace hx108_1 := hb_ HB.out hx108_1
          replace p108 := eq_true p108
          replace q108 := eq_true q108
          go_wp2
          go_meet
          case rel => exact ⟨_, ((((rd_T146 ((rd_T134 l0 a1).f2) 0).f0) != 2)), eq_, H', ⟨by have := HJ4.out; first | omega | exact Nat.le_refl _⟩, ⟨blkx_ BK106.out⟩, ⟨bel_⟩⟩
         ·rw [if_neg c31] at H
          exact absurd H (by simp)
      case rest =>
       clear HC26
       try clear hx1
       try clear qi1
       try clear hx10
       try clear qi10
       try clear hx107_0
       try clear hx107_1
       try clear hx107_2
       try clear hx108_0
       try clear hx108_1
       obtain ⟨kq, x61_25, rfl, HA, HJ25, BK106, HB⟩ := hcut
       cases kq with
       | zero => exact absurd HA.out (by simp [epicycleref04_Right.j1])
       | succ kj25 =>
        have H := HA.out
        clear HA
        simp only [epicycleref04_Right.j1] at H
        by_cases c33 : x61_25 = true
        ·subst c33
         have H1 := H; rw [if_pos rfl] at H1
         clear H
         have H := H1
         clear H1
         obtain rfl := Option.some.inj H
         go_wp2
         go_ret
         exact ⟨eq_, bel_⟩
        ·replace c33 := Bool.eq_false_iff.mpr c33
         subst c33
         have H1 := H; rw [if_neg (show ¬ (false = true) by decide)] at H1
         clear H
         have H := H1
         clear H1
         have H' := Aside0.mk H
         clear H
         go_wp2
         go_loopg [6] kj25 (fun kq v6 w' => ∃ (x6_3 : Int), v6 = .int .i64 x6_3 ∧ Aside0 (epicycleref04_Right.l0 kq l0 a1 x6_3 ((rd_T134 l0 a1).f0) ((rd_T134 l0 a1).f1) ((rd_T134 l0 a1).f2) = some r) ∧ Aside0 (kq ≤ kj25) ∧ Aside0 (w'.heap[gb106]? = some (.cells #[.int .u64 ((rd_T134 l0 a1).f0), .int .u64 ((rd_T134 l0 a1).f1), (.slice A105_2 ((rd_T134 l0 a1).f2).length c105_2)] 134 (0, 0))) ∧ Aside0 (Below w.heap.size w w'))
         case atStart => exact ⟨(1), eq_, H', ⟨Nat.le_refl _⟩, ⟨blkx_ BK106.out⟩, ⟨bel_⟩⟩
         case round =>
          clear H'
          try clear hx1
          try clear qi1
          try clear hx10
          try clear qi10
          try clear hx107_0
          try clear hx107_1
          try clear hx107_2
          try clear hx108_0
          try clear hx108_1
          obtain ⟨x6_3, rfl, HA, HK3, BK106, HB⟩ := hrel
          cases gk with
          | zero => exact absurd HA.out (by simp [epicycleref04_Right.l0])
          | succ k3 =>
           have H := HA.out
           clear HA
           simp only [epicycleref04_Right.l0] at H
           by_cases c34 : x6_3 < (((rd_T134 l0 a1).f2).length : Int)
           ·rw [if_pos c34] at H
            have c34b0 := decide_eq_true c34
            clear c34
            have HC35 := Aside0.mk H
            clear H
            have hcz36_0 := bc_ BK106.out 0 rfl
            have hcz36_1 := bc_ BK106.out 1 rfl
            have hcz36_2 := bc_ BK106.out 2 rfl
            have hfz36_0 := blk_frozen BK106.out 0
            have hfz36_1 := blk_frozen BK106.out 1
            have hfz36_2 := blk_frozen BK106.out 2
            go_upto_region 9 with (fail)
            go_cut [95] (fun v95 wc => ∃ (kq : Nat) (x95_34 : Bool), v95 = .bool x95_34 ∧ Aside0 (epicycleref04_Right.j3 kq l0 a1 x6_3 x95_34 ((rd_T134 l0 a1).f0) ((rd_T134 l0 a1).f1) ((rd_T134 l0 a1).f2) = some r) ∧ Aside0 (kq ≤ k3) ∧ Aside0 (wc.heap[gb106]? = some (.cells #[.int .u64 ((rd_T134 l0 a1).f0), .int .u64 ((rd_T134 l0 a1).f1), (.slice A105_2 ((rd_T134 l0 a1).f2).length c105_2)] 134 (0, 0))) ∧ Aside0 (Below w.heap.size w wc))
            case first =>
             have H := HC35.out
             clear HC35
             by_cases c37 : 0 ≤ x6_3
             ·rw [if_pos c37] at H
              have c37b0 := decide_eq_true c37
              clear c37
              (first | rw [c37b0] | (simp only [i64_w, i32_w]; rw [c37b0]) | skip)
              obtain ⟨ji38, hji38⟩ : ∃ j_ : Int, (wrap64 (x6_3 - 1)) = j_ := ⟨_, rfl⟩
              (first | rw [hji38] at H | simp only [hji38] at H)
              have hji38w : (IntKind.i64.wrap (x6_3 - 1)) = ji38 := (i64_w _).trans hji38
              by_cases c39 : 0 ≤ (ji38)
              ·rw [if_pos c39] at H
               have c39b0 := decide_eq_true c39
               clear c39
               by_cases c40 : (ji38) < (((rd_T134 l0 a1).f2).length : Int)
               ·rw [if_pos c40] at H
                have c40b0 := decide_eq_true c40
                clear c40
                by_cases c41 : ((rd_T146 ((rd_T134 l0 a1).f2) x6_3).f0) ≤ ((rd_T146 ((rd_T134 l0 a1).f2) (ji38)).f0)
                ·rw [if_pos c41] at H
                 have c41b0 := decide_eq_true c41
                 clear c41
                 have H' := Aside0.mk H
                 clear H
                 try go_wp2
                 have p109 : 0 ≤ (x6_3 : Int) := of_decide_eq_true (by assumption)
                 have q109 : x6_3 < (((rd_T134 l0 a1).f2).length : Int) := of_decide_eq_true (by assumption)
                 obtain ⟨ad109, e109, hx109_0, hx109_1⟩ := at_T146 HR105_2.out x6_3 p109 q109
                 have hw109_1 := hx109_1
                 have hw109_0 := hx109_0
                 cases e109
                 replace hx109_0 := hb_ HB.out hx109_0
                 replace hx109_1 := hb_ HB.out hx109_1
                 replace p109 := eq_true p109
                 replace q109 := eq_true q109
                 have p110 : 0 ≤ ((ji38) : Int) := of_decide_eq_true (by assumption)
                 have q110 : (ji38) < (((rd_T134 l0 a1).f2).length : Int) := of_decide_eq_true (by assumption)
                 obtain ⟨ad110, e110, hx110_0, hx110_1⟩ := at_T146 HR105_2.out (ji38) p110 q110
                 have hw110_1 := hx110_1
                 have hw110_0 := hx110_0
                 obtain rfl : ad109 = ad110 := (by injection e110)
                 replace hx110_0 := hb_ HB.out hx110_0
                 replace hx110_1 := hb_ HB.out hx110_1
                 replace p110 := eq_true p110
                 replace q110 := eq_true q110
                 have hcq0_ : wr.cell? ⟨gb106, 0, none⟩ = some (.int .u64 ((rd_T134 l0 a1).f0)) := (blk_cell BK106.out 0).trans rfl
                 have hfq0_ := blk_frozen BK106.out 0
                 have hcq1_ : wr.cell? ⟨gb106, 1, none⟩ = some (.int .u64 ((rd_T134 l0 a1).f1)) := (blk_cell BK106.out 1).trans rfl
                 have hfq1_ := blk_frozen BK106.out 1
                 have hcq2_ : wr.cell? ⟨gb106, 2, none⟩ = some (.slice (some ad109) ((rd_T134 l0 a1).f2).length c105_2) := (blk_cell BK106.out 2).trans rfl
                 have hfq2_ := blk_frozen BK106.out 2
                 have hcq3_ : wr.cell? (ad109.add ((x6_3).toNat * 2)) = some (.int .u64 ((rd_T146 ((rd_T134 l0 a1).f2) x6_3).f0)) := (hb_ HB.out hw109_0)
                 have hcq4_ : wr.cell? ⟨(ad109.add ((x6_3).toNat * 2)).block, (ad109.add ((x6_3).toNat * 2)).off + 1, none⟩ = some (.int .i64 ((rd_T146 ((rd_T134 l0 a1).f2) x6_3).f1)) := (hb_ HB.out hw109_1)
                 have hcq5_ : wr.cell? (ad109.add (((ji38)).toNat * 2)) = some (.int .u64 ((rd_T146 ((rd_T134 l0 a1).f2) (ji38)).f0)) := (hb_ HB.out hw110_0)
                 have hcq6_ : wr.cell? ⟨(ad109.add (((ji38)).toNat * 2)).block, (ad109.add (((ji38)).toNat * 2)).off + 1, none⟩ = some (.int .i64 ((rd_T146 ((rd_T134 l0 a1).f2) (ji38)).f1)) := (hb_ HB.out hw110_1)
                 go_quiet (fail)
                 try go_wp2
                 go_meet
                 case rel => exact ⟨_, (true), eq_, H', ⟨by have := HJ4.out; have := HJ25.out; have := HK3.out; first | omega | exact Nat.le_refl _⟩, ⟨blkx_ BK106.out⟩, ⟨bel_⟩⟩
                ·rw [if_neg c41] at H
                 have c41b0 := decide_eq_false c41
                 clear c41
                 by_cases c43 : 0 ≤ a1
                 ·rw [if_pos c43] at H
                  have c43b0 := eq_true c43
                  have c43b1 := decide_eq_true c43
                  clear c43
                  by_cases c44 : a1 ≤ (l0.length : Int)
                  ·rw [if_pos c44] at H
                   have c44b0 := eq_true c44
                   have c44b1 := decide_eq_true c44
                   clear c44
                   obtain ⟨y111, hy111⟩ : ∃ y_ : List (S134), y_ = (l0.take (a1 : Int).toNat) := ⟨_, rfl⟩
                   replace H : ((epicycleref04_Claimed.f k3 y111 ((rd_T146 ((rd_T134 l0 a1).f2) x6_3).f0)).bind fun t116 => (epicycleref04_Right.j3 k3 l0 a1 x6_3 (!t116) ((rd_T134 l0 a1).f0) ((rd_T134 l0 a1).f1) ((rd_T134 l0 a1).f2))) = some r := by first | (rw [hy111]; with_reducible exact H) | (have H2_ := (Option.bind_some _ _).symm.trans H; rw [hy111]; with_reducible exact H2_) | (have H2_ := (Option.bind_some _ _).symm.trans H; with_reducible exact H2_) | with_reducible exact H | (rw [hy111]; exact H) | exact H
                   have Ny111 := Aside0.mk hy111
                   clear hy111
                   replace H := Option.bind_eq_some_iff.mp H
                   obtain ⟨t116, A450, H⟩ := H
                   (try dsimp only at H)
                   have A45 := Aside0.mk A450
                   clear A450
                   have H' := Aside0.mk H
                   clear H
                   try go_wp2
                   have n0_ := Aside0.mk (blk_drew BK106.out)
                   have n1_ := Aside0.mk (below_drew1 HB.out)
                   clear BK106
                   clear HB
                   have BK106 := n0_
                   have HB := n1_
                   clear n0_ n1_
                   have p109 : 0 ≤ (x6_3 : Int) := of_decide_eq_true (by assumption)
                   have q109 : x6_3 < (((rd_T134 l0 a1).f2).length : Int) := of_decide_eq_true (by assumption)
                   obtain ⟨ad109, e109, hx109_0, hx109_1⟩ := at_T146 HR105_2.out x6_3 p109 q109
                   have hw109_1 := hx109_1
                   have hw109_0 := hx109_0
                   cases e109
                   replace hx109_0 := hb_ HB.out hx109_0
                   replace hx109_1 := hb_ HB.out hx109_1
                   replace p109 := eq_true p109
                   replace q109 := eq_true q109
                   have p110 : 0 ≤ ((ji38) : Int) := of_decide_eq_true (by assumption)
                   have q110 : (ji38) < (((rd_T134 l0 a1).f2).length : Int) := of_decide_eq_true (by assumption)
                   obtain ⟨ad110, e110, hx110_0, hx110_1⟩ := at_T146 HR105_2.out (ji38) p110 q110
                   have hw110_1 := hx110_1
                   have hw110_0 := hx110_0
                   obtain rfl : ad109 = ad110 := (by injection e110)
                   replace hx110_0 := hb_ HB.out hx110_0
                   replace hx110_1 := hb_ HB.out hx110_1
                   replace p110 := eq_true p110
                   replace q110 := eq_true q110
                   have q47 : (a1 : Int) ≤ ((l0.length : Int) : Int) := of_decide_eq_true (by assumption)
                   obtain ⟨i047, hi047, _, hsz47, _⟩ := info_parts info134
                   have hroom47 : l0.length ≤ c0 := HC0.out
                   have hC47 : Kd.C k134 _ (some ad105) l0.length l0 := HR0.out
                   have hcut47 := cut_to (P := Tryz.prog) 23 134 .i64 Tryz.underlying23 hi047 (some ad105) l0.length c0 a1 (of_decide_eq_true (by assumption)) q47 hroom47
                   have hr47 := Kd.C_take (m := (a1 : Int).toNat) hC47 (by omega)
                   have hy47 : y111.length = (a1 : Int).toNat := (by rw [Ny111.out, List.length_take]; omega)
                   rw [← Ny111.out] at hr47
                   rw [← hy47] at hcut47
                   have HR114 := Aside0.mk hr47
                   have HC114 := Aside0.mk (show y111.length ≤ c0 from by omega)
                   clear hr47 hC47 hroom47 hi047 hsz47
                   have KY47 := Aside0.mk hy47
                   clear hy47
                   replace q47 := eq_true q47
                   have p115 : 0 ≤ (x6_3 : Int) := of_decide_eq_true (by assumption)
                   have q115 : x6_3 < (((rd_T134 l0 a1).f2).length : Int) := of_decide_eq_true (by assumption)
                   obtain ⟨ad115, e115, hx115_0, hx115_1⟩ := at_T146 HR105_2.out x6_3 p115 q115
                   have hw115_1 := hx115_1
                   have hw115_0 := hx115_0
                   obtain rfl : ad109 = ad115 := (by injection e115)
                   replace hx115_0 := hb_ HB.out hx115_0
                   replace hx115_1 := hb_ HB.out hx115_1
                   replace p115 := eq_true p115
                   replace q115 := eq_true q115
                   refine start_ (n := 27) (S := fun w' => w'.cell? ⟨gb106, 0, none⟩ = some (.int .u64 ((rd_T134 l0 a1).f0)) ∧ w'.cell? ⟨gb106, 1, none⟩ = some (.int .u64 ((rd_T134 l0 a1).f1)) ∧ w'.cell? ⟨gb106, 2, none⟩ = some (.slice (some ad109) ((rd_T134 l0 a1).f2).length c105_2) ∧ w'.cell? (ad109.add ((x6_3).toNat * 2)) = some (.int .u64 ((rd_T146 ((rd_T134 l0 a1).f2) x6_3).f0)) ∧ w'.cell? ⟨(ad109.add ((x6_3).toNat * 2)).block, (ad109.add ((x6_3).toNat * 2)).off + 1, none⟩ = some (.int .i64 ((rd_T146 ((rd_T134 l0 a1).f2) x6_3).f1)) ∧ w'.cell? (ad109.add (((ji38)).toNat * 2)) = some (.int .u64 ((rd_T146 ((rd_T134 l0 a1).f2) (ji38)).f0)) ∧ w'.cell? ⟨(ad109.add (((ji38)).toNat * 2)).block, (ad109.add (((ji38)).toNat * 2)).off + 1, none⟩ = some (.int .i64 ((rd_T146 ((rd_T134 l0 a1).f2) (ji38)).f1)) ∧ w'.cell? (ad109.add ((x6_3).toNat * 2)) = some (.int .u64 ((rd_T146 ((rd_T134 l0 a1).f2) x6_3).f0)) ∧ w'.cell? ⟨(ad109.add ((x6_3).toNat * 2)).block, (ad109.add ((x6_3).toNat * 2)).off + 1, none⟩ = some (.int .i64 ((rd_T146 ((rd_T134 l0 a1).f2) x6_3).f1))) (ds := []) #[false, false, false, false, false, false, false, false, false, false, false, false, false, false, false, false, false, false, false, false, false, false, false, false, false, false, false] (by kernel_rfl) rfl rfl ⟨(blk_cell BK106.out 0).trans rfl, (blk_cell BK106.out 1).trans rfl, (blk_cell BK106.out 2).trans rfl, (hb_ HB.out hw109_0), (hb_ HB.out hw109_1), (hb_ HB.out hw110_0), (hb_ HB.out hw110_1), (hb_ HB.out hw115_0), (hb_ HB.out hw115_1)⟩ (fun hHeld => ?_); refine with_tabW epicycleref04_Right.tab9 epicycleref04_Right.bits9 (fun HT_ HW_ => ?_)
                   generalize wr.drew = w46 at BK106 HB HR114 hx109_0 hx109_1 hx110_0 hx110_1 hx115_0 hx115_1 hHeld ⊢
                   refine pT_ 0 69 HT_ rfl rfl ?_
                   refine pT_ 2 71 HT_ rfl rfl ?_
                   refine pT_ 6 75 HT_ rfl rfl ?_
                   refine pT_ 8 77 HT_ rfl rfl ?_
                   refine pT_ 9 78 HT_ rfl rfl ?_
                   refine tS_ 1 70 (take_ofW HT_.out HW_.out (by kernel_rfl)) hHeld (by rintro w' ⟨s0, s1, s2, s3, s4, s5, s6, s7, s8⟩; go_simp; with_reducible rfl) rfl rfl ?_
                   refine pT_ 3 72 HT_ rfl rfl ?_
                   refine pT_ 4 73 HT_ rfl rfl ?_
                   refine tS_ 5 74 (take_ofW HT_.out HW_.out (by kernel_rfl)) hHeld (by rintro w' ⟨s0, s1, s2, s3, s4, s5, s6, s7, s8⟩; go_simp; with_reducible rfl) rfl rfl ?_
                   refine tS_ 7 76 (take_ofW HT_.out HW_.out (by kernel_rfl)) hHeld (by rintro w' ⟨s0, s1, s2, s3, s4, s5, s6, s7, s8⟩; go_simp; with_reducible rfl) rfl rfl ?_
                   refine pT_ 10 79 HT_ rfl rfl ?_
                   refine pT_ 11 80 HT_ rfl rfl ?_
                   refine tS_ 12 81 (take_ofW HT_.out HW_.out (by kernel_rfl)) hHeld (by rintro w' ⟨s0, s1, s2, s3, s4, s5, s6, s7, s8⟩; go_simp; with_reducible rfl) rfl rfl ?_
                   refine pT_ 13 82 HT_ rfl rfl ?_
                   refine pT_ 14 83 HT_ rfl rfl ?_
                   refine pT_ 15 84 HT_ rfl rfl ?_
                   refine pT_ 16 85 HT_ rfl rfl ?_
                   refine pT_ 17 86 HT_ rfl rfl ?_
                   refine pT_ 18 87 HT_ rfl rfl ?_
                   refine pT_ 20 89 HT_ rfl rfl ?_
                   refine tS_ 19 88 (take_ofW HT_.out HW_.out (by kernel_rfl)) hHeld (by rintro w' ⟨s0, s1, s2, s3, s4, s5, s6, s7, s8⟩; go_simp; with_reducible rfl) rfl rfl ?_
                   refine pT_ 21 90 HT_ rfl rfl ?_
                   refine pT_ 22 91 HT_ rfl rfl ?_
                   refine tS_ 23 92 (take_ofW HT_.out HW_.out (by kernel_rfl)) hHeld (by rintro w' ⟨s0, s1, s2, s3, s4, s5, s6, s7, s8⟩; go_simp; with_reducible rfl) rfl rfl ?_
                   refine one_ (i := 24) (N := some 93) #[true, true, true, true, true, true, true, true, true, true, true, true, true, true, true, true, true, true, true, true, true, true, true, true, true, false, false] rfl rfl (one_of HT_.out (by kernel_rfl)) (by decide) (fun K hK => ?_)
                   refine goes_ Tryz.func148 (by kernel_rfl) rfl #[.slice (some ad105) y111.length c0, .int .u64 ((rd_T146 ((rd_T134 l0 a1).f2) x6_3).f0)] (by rfl) rfl rfl ga_ ?_
                   with_reducible refine (epicycleref04_Claimed.calls k3 _ _ y111 ((rd_T146 ((rd_T134 l0 a1).f2) x6_3).f0) t116 _ ?side1 ?side2 A45.out).mono ?_
                   (case side1 => exact cal_ (Kd.C_below HR114.out HB.out))
                   (case side2 => exact HC114.out)
                   rintro e w48 ⟨rfl, hb⟩
                   refine ⟨_, rfl, ?_⟩
                   have n0_ := Aside0.mk (blk_below BK106.out hb)
                   have n1_ := Aside0.mk (below_step bel_ hb)
                   clear BK106
                   clear HB
                   have BK106 := n0_
                   have HB := n1_
                   clear n0_ n1_
                   (try clear hb)
                   (try clear hb2)
                   (try clear hk)
                   (try clear hi)
                   refine hK.out _ _ ⟨(blk_cell BK106.out 0).trans rfl, (blk_cell BK106.out 1).trans rfl, (blk_cell BK106.out 2).trans rfl, (hb_ HB.out hw109_0), (hb_ HB.out hw109_1), (hb_ HB.out hw110_0), (hb_ HB.out hw110_1), (hb_ HB.out hw115_0), (hb_ HB.out hw115_1)⟩ (fun hHeld => ?_)
                   clear hK K
                   refine nS_ ?_
                   refine pT_ 25 94 HT_ rfl rfl ?_
                   refine pT_ 26 95 HT_ rfl rfl ?_
                   refine done_ (done_of HT_.out (by kernel_rfl)) ?_
                   try go_wp2
                   go_meet
                   case rel => exact ⟨_, (!t116), eq_, H', ⟨by have := HJ4.out; have := HJ25.out; have := HK3.out; first | omega | exact Nat.le_refl _⟩, ⟨blkx_ BK106.out⟩, ⟨bel_⟩⟩
                  ·rw [if_neg c44] at H
                   exact absurd H (by simp)
                 ·rw [if_neg c43] at H
                  exact absurd H (by simp)
               ·rw [if_neg c40] at H
                exact absurd H (by simp)
              ·rw [if_neg c39] at H
               exact absurd H (by simp)
             ·rw [if_neg c37] at H
              exact absurd H (by simp)
            case rest =>
             clear HC35
             try clear hx1
             try clear hx10
             try clear hx11
             try clear hx107_0
             try clear hx107_1
             try clear hx107_2
             try clear hx108_0
             try clear hx108_1
             try clear hx109_0
             try clear hx109_1
             try clear hx110_0
             try clear hx110_1
             try clear hx115_0
             try clear hx115_1
             obtain ⟨kq, x95_34, rfl, HA, HJ34, BK106, HB⟩ := hcut
             cases kq with
             | zero => exact absurd HA.out (by simp [epicycleref04_Right.j3])
             | succ kj34 =>
              have H := HA.out
              clear HA
              simp only [epicycleref04_Right.j3] at H
              by_cases c49 : x95_34 = true
              ·subst c49
               have H1 := H; rw [if_pos rfl] at H1
               clear H
               have H := H1
               clear H1
               obtain rfl := Option.some.inj H
               go_wp2
               go_ret
               exact ⟨eq_, bel_⟩
              ·replace c49 := Bool.eq_false_iff.mpr c49
               subst c49
               have H1 := H; rw [if_neg (show ¬ (false = true) by decide)] at H1
               clear H
               have H := H1
               clear H1
               have H' := Aside0.mk H
               clear H
               go_wp2
               go_roundg kj34
               case measure => have := HJ4.out; have := HJ25.out; have := HK3.out; have := HJ34.out; omega
               case rel => exact ⟨(wrap64 (x6_3 + 1)), eq_, H', ⟨by have := HJ4.out; have := HJ25.out; have := HK3.out; have := HJ34.out; omega⟩, ⟨blkx_ BK106.out⟩, ⟨bel_⟩⟩
           ·rw [if_neg c34] at H
            have c34b0 := decide_eq_false c34
            clear c34
            replace H := Option.bind_eq_some_iff.mp H
            obtain ⟨⟨t117, t118⟩, A500, H⟩ := H
            (try dsimp only at H)
            have A50 := Aside0.mk A500
            clear A500
            have HC51 := Aside0.mk H
            clear H
            have hcz52_0 := bc_ BK106.out 0 rfl
            have hcz52_1 := bc_ BK106.out 1 rfl
            have hcz52_2 := bc_ BK106.out 2 rfl
            have hfz52_0 := blk_frozen BK106.out 0
            have hfz52_1 := blk_frozen BK106.out 1
            have hfz52_2 := blk_frozen BK106.out 2
            go_upto_region 12 with (first | (refine gl_ 102 Tryz.func149 #[.slice A105_2 ((rd_T134 l0 a1).f2).length c105_2, .int .u64 (IntKind.u64.wrap (((rd_T134 l0 a1).f0) - 1))] rfl ?_; (with_reducible refine (epicycleref04_Product.calls k3 _ _ ((rd_T134 l0 a1).f2) (IntKind.u64.wrap (((rd_T134 l0 a1).f0) - 1)) t117 t118 _ ?side1 ?side2 A50.out).mono ?_); (case side1 => exact cal_ (Kd.C_below HR105_2.out HB.out)); (case side2 => exact HC105_2.out); rintro e w53 ⟨rfl, hb⟩; refine ⟨_, rfl, ?_⟩; have n0_ := Aside0.mk (blk_below BK106.out hb); have n1_ := Aside0.mk (below_step bel_ hb); clear BK106; clear HB; have BK106 := n0_; have HB := n1_; clear n0_ n1_))
            (try simp only [Act.put, List.setIfInBounds_toArray, List.set_cons_zero, List.set_cons_succ])
            go_cut [136] (fun v136 wc => ∃ (kq : Nat) (x136_50 : Bool), v136 = .bool x136_50 ∧ Aside0 (epicycleref04_Right.j4 kq x136_50 ((rd_T134 l0 a1).f0) ((rd_T134 l0 a1).f1) ((rd_T134 l0 a1).f2) = some r) ∧ Aside0 (kq ≤ k3) ∧ Aside0 (wc.heap[gb106]? = some (.cells #[.int .u64 ((rd_T134 l0 a1).f0), .int .u64 ((rd_T134 l0 a1).f1), (.slice A105_2 ((rd_T134 l0 a1).f2).length c105_2)] 134 (0, 0))) ∧ Aside0 (Below w.heap.size w wc))
            case first =>
             have H := HC51.out
             clear HC51
             by_cases c54 : t118 = true
             ·subst c54
              have H1 := H; rw [if_pos rfl] at H1
              clear H
              have H := H1
              clear H1
              by_cases c55 : t117 = (IntKind.u64.wrap (((rd_T134 l0 a1).f0) - 1))
              ·rw [if_pos c55] at H
               have c55b0 := beq_iff_eq.mpr c55
               have c55b1 := bne_eq_false_iff_eq.mpr c55
               clear c55
               (first | rw [c55b0] | (simp only [i64_w, i32_w]; rw [c55b0]) | skip)
               by_cases c56 : ((rd_T134 l0 a1).f1) < 2
               ·rw [if_pos c56] at H
                have c56b0 := decide_eq_true c56
                clear c56
                have H' := Aside0.mk H
                clear H
                have hcz57_0 := bc_ BK106.out 0 rfl
                have hcz57_1 := bc_ BK106.out 1 rfl
                have hcz57_2 := bc_ BK106.out 2 rfl
                have hfz57_0 := blk_frozen BK106.out 0
                have hfz57_1 := blk_frozen BK106.out 1
                have hfz57_2 := blk_frozen BK106.out 2
                go_wp2
                go_meet
                case rel => exact ⟨_, (true), eq_, H', ⟨by have := HJ4.out; have := HJ25.out; have := HK3.out; first | omega | exact Nat.le_refl _⟩, ⟨blkx_ BK106.out⟩, ⟨bel_⟩⟩
               ·rw [if_neg c56] at H
                have c56b0 := decide_eq_false c56
                clear c56
                by_cases c58 : ((rd_T134 l0 a1).f1) ≥ ((rd_T134 l0 a1).f0)
                ·rw [if_pos c58] at H
                 have c58b0 := decide_eq_true c58
                 clear c58
                 have H' := Aside0.mk H
                 clear H
                 have hcz59_0 := bc_ BK106.out 0 rfl
                 have hcz59_1 := bc_ BK106.out 1 rfl
                 have hcz59_2 := bc_ BK106.out 2 rfl
                 have hfz59_0 := blk_frozen BK106.out 0
                 have hfz59_1 := blk_frozen BK106.out 1
                 have hfz59_2 := blk_frozen BK106.out 2
                 go_wp2
                 go_meet
                 case rel => exact ⟨_, (true), eq_, H', ⟨by have := HJ4.out; have := HJ25.out; have := HK3.out; first | omega | exact Nat.le_refl _⟩, ⟨blkx_ BK106.out⟩, ⟨bel_⟩⟩
                ·rw [if_neg c58] at H
                 have c58b0 := decide_eq_false c58
                 clear c58
                 replace H := Option.bind_eq_some_iff.mp H
                 obtain ⟨t119, A600, H⟩ := H
                 (try dsimp only at H)
                 have A60 := Aside0.mk A600
                 clear A600
                 have H' := Aside0.mk H
                 clear H
                 have hcz61_0 := bc_ BK106.out 0 rfl
                 have hcz61_1 := bc_ BK106.out 1 rfl
                 have hcz61_2 := bc_ BK106.out 2 rfl
                 have hfz61_0 := blk_frozen BK106.out 0
                 have hfz61_1 := blk_frozen BK106.out 1
                 have hfz61_2 := blk_frozen BK106.out 2
                 go_wp2_with (first | (go_at_call 30; (with_reducible refine (epicycleref02_Pow.calls k3 ((rd_T134 l0 a1).f1) (IntKind.u64.wrap (((rd_T134 l0 a1).f0) - 1)) ((rd_T134 l0 a1).f0) t119 _ A60.out).mono ?_); rintro e w' ⟨rfl, ⟨nd, rfl⟩⟩))
                 go_meet
                 case rel => exact ⟨_, ((t119 != 1)), eq_, H', ⟨by have := HJ4.out; have := HJ25.out; have := HK3.out; first | omega | exact Nat.le_refl _⟩, ⟨blkx_ BK106.out⟩, ⟨bel_⟩⟩
              ·rw [if_neg c55] at H
               have c55b0 := beq_eq_false_iff_ne.mpr c55
               have c55b1 := bne_iff_ne.mpr c55
               (first | rw [c55b0] | (simp only [i64_w, i32_w]; rw [c55b0]) | skip)
               have H' := Aside0.mk H
               clear H
               have hcz62_0 := bc_ BK106.out 0 rfl
               have hcz62_1 := bc_ BK106.out 1 rfl
               have hcz62_2 := bc_ BK106.out 2 rfl
               have hfz62_0 := blk_frozen BK106.out 0
               have hfz62_1 := blk_frozen BK106.out 1
               have hfz62_2 := blk_frozen BK106.out 2
               go_wp2
               go_meet
               case rel => exact ⟨_, (true), eq_, H', ⟨by have := HJ4.out; have := HJ25.out; have := HK3.out; first | omega | exact Nat.le_refl _⟩, ⟨blkx_ BK106.out⟩, ⟨bel_⟩⟩
             ·replace c54 := Bool.eq_false_iff.mpr c54
              subst c54
              have H1 := H; rw [if_neg (show ¬ (false = true) by decide)] at H1
              clear H
              have H := H1
              clear H1
              have H' := Aside0.mk H
              clear H
              go_wp2
              go_meet
              case rel => exact ⟨_, (true), eq_, H', ⟨by have := HJ4.out; have := HJ25.out; have := HK3.out; first | omega | exact Nat.le_refl _⟩, ⟨blkx_ BK106.out⟩, ⟨bel_⟩⟩
            case rest =>
             clear HC51
             try clear hx1
             try clear hx10
             try clear hx11
             try clear hx107_0
             try clear hx107_1
             try clear hx107_2
             try clear hx108_0
             try clear hx108_1
             try clear hx109_0
             try clear hx109_1
             try clear hx110_0
             try clear hx110_1
             try clear hx115_0
             try clear hx115_1
             obtain ⟨kq, x136_50, rfl, HA, HJ50, BK106, HB⟩ := hcut
             cases kq with
             | zero => exact absurd HA.out (by simp [epicycleref04_Right.j4])
             | succ kj50 =>
              have H := HA.out
              clear HA
              simp only [epicycleref04_Right.j4] at H
              by_cases c63 : x136_50 = true
              ·subst c63
               have H1 := H; rw [if_pos rfl] at H1
               clear H
               have H := H1
               clear H1
               obtain rfl := Option.some.inj H
               go_wp2
               go_ret
               exact ⟨eq_, bel_⟩
              ·replace c63 := Bool.eq_false_iff.mpr c63
               subst c63
               have H1 := H; rw [if_neg (show ¬ (false = true) by decide)] at H1
               clear H
               have H := H1
               clear H1
               have H' := Aside0.mk H
               clear H
               have hcz64_0 := bc_ BK106.out 0 rfl
               have hcz64_1 := bc_ BK106.out 1 rfl
               have hcz64_2 := bc_ BK106.out 2 rfl
               have hfz64_0 := blk_frozen BK106.out 0
               have hfz64_1 := blk_frozen BK106.out 1
               have hfz64_2 := blk_frozen BK106.out 2
               go_wp2
               go_loopg [140] kj50 (fun kq v140 w' => ∃ (x140_5 : Int), v140 = .int .i64 x140_5 ∧ Aside0 (epicycleref04_Right.l1 kq ((rd_T134 l0 a1).f2) (((rd_T134 l0 a1).f2).length : Int) x140_5 ((rd_T134 l0 a1).f0) ((rd_T134 l0 a1).f1) ((rd_T134 l0 a1).f2) = some r) ∧ Aside0 (kq ≤ kj50) ∧ Aside0 (w'.heap[gb106]? = some (.cells #[.int .u64 ((rd_T134 l0 a1).f0), .int .u64 ((rd_T134 l0 a1).f1), (.slice A105_2 ((rd_T134 l0 a1).f2).length c105_2)] 134 (0, 0))) ∧ Aside0 (Below w.heap.size w w'))
               case atStart => exact ⟨(0), eq_, H', ⟨Nat.le_refl _⟩, ⟨blkx_ BK106.out⟩, ⟨bel_⟩⟩
               case round =>
                clear H'
                try clear hx1
                try clear hx10
                try clear hx11
                try clear hx107_0
                try clear hx107_1
                try clear hx107_2
                try clear hx108_0
                try clear hx108_1
                try clear hx109_0
                try clear hx109_1
                try clear hx110_0
                try clear hx110_1
                try clear hx115_0
                try clear hx115_1
                obtain ⟨x140_5, rfl, HA, HK5, BK106, HB⟩ := hrel
                cases gk with
                | zero => exact absurd HA.out (by simp [epicycleref04_Right.l1])
                | succ k5 =>
                 have H := HA.out
                 clear HA
                 simp only [epicycleref04_Right.l1] at H
                 by_cases c65 : x140_5 < (((rd_T134 l0 a1).f2).length : Int)
                 ·rw [if_pos c65] at H
                  have c65b0 := decide_eq_true c65
                  clear c65
                  by_cases c66 : 0 ≤ x140_5
                  ·rw [if_pos c66] at H
                   have c66b0 := decide_eq_true c66
                   clear c66
                   by_cases c67 : x140_5 < (((rd_T134 l0 a1).f2).length : Int)
                   ·rw [if_pos c67] at H
                    have c67b0 := decide_eq_true c67
                    clear c67
                    by_cases c68 : ((rd_T146 ((rd_T134 l0 a1).f2) x140_5).f0) = 0
                    ·rw [if_pos c68] at H
                     exact absurd H (by simp)
                    ·rw [if_neg c68] at H
                     have c68b0 := beq_eq_false_iff_ne.mpr c68
                     have c68b1 := bne_iff_ne.mpr c68
                     replace H := Option.bind_eq_some_iff.mp H
                     obtain ⟨t122, A690, H⟩ := H
                     (try dsimp only at H)
                     have A69 := Aside0.mk A690
                     clear A690
                     by_cases c70 : t122 = 1
                     ·rw [if_pos c70] at H
                      have c70b0 := beq_iff_eq.mpr c70
                      have c70b1 := bne_eq_false_iff_eq.mpr c70
                      clear c70
                      obtain rfl := Option.some.inj H
                      have p120 : 0 ≤ (x140_5 : Int) := of_decide_eq_true (by assumption)
                      have q120 : x140_5 < (((rd_T134 l0 a1).f2).length : Int) := of_decide_eq_true (by assumption)
                      obtain ⟨ad120, e120, hx120_0, hx120_1⟩ := at_T146 HR105_2.out x140_5 p120 q120
                      cases e120
                      replace hx120_0 := hb_ HB.out hx120_0
                      replace hx120_1 := hb_ HB.out hx120_1
                      replace p120 := eq_true p120
                      replace q120 := eq_true q120
                      try go_wp2_with (first | ((with_reducible refine gate_dst (N := 10) rfl ?_); (try (refine gate_guard (by rfl) ?_; dsimp only)); refine be_ 10 #[.int .u64 0, .int .i64 0] 146 ?_; intro gb121 hg w71 hbox hb; have n0_ := Aside0.mk (blk_below BK106.out hb); have n1_ := Aside0.mk (below_step bel_ hb); have n2_ := Aside0.mk (hbox); have n3_ := Aside0.mk ((by rw [hg]; exact (below_size bel_) : w.heap.size ≤ gb121)); have n4_ := Aside0.mk ((by rw [hg]; exact (below_size bel_) : w.heap.size ≤ gb121)); have n5_ := Aside0.mk ((by rw [hg]; exact Nat.ne_of_lt (blk_lt BK106.out) : gb106 ≠ gb121)); have n6_ := Aside0.mk ((by rw [hg]; exact Nat.ne_of_gt (blk_lt BK106.out) : gb121 ≠ gb106)); clear BK106; clear HB; have BK106 := n0_; have HB := n1_; have BK121 := n2_; have GW121 := n3_; have GE121 := n4_; have NB106_121 := n5_; have NB121_106 := n6_; clear n0_ n1_ n2_ n3_ n4_ n5_ n6_; clear hb hbox hg; have hnb72 := NB121_106.out; have hnc72 := NB106_121.out; have hcz73_0 := bc_ BK121.out 0 rfl; have hcz73_1 := bc_ BK121.out 1 rfl; have hfz73_0 := blk_frozen BK121.out 0; have hfz73_1 := blk_frozen BK121.out 1))
                      have n0_ : Aside0 (((w71.setCell ⟨gb121, 0, none⟩ (.int .u64 ((rd_T146 ((rd_T134 l0 a1).f2) x140_5).f0))).setCell ⟨gb121, 1, none⟩ (.int .i64 ((rd_T146 ((rd_T134 l0 a1).f2) x140_5).f1))).heap[gb106]? = some (.cells #[.int .u64 ((rd_T134 l0 a1).f0), .int .u64 ((rd_T134 l0 a1).f1), .slice (some ad120) ((rd_T134 l0 a1).f2).length c105_2] 134 (0, 0))) := ⟨blk_far (blk_far BK106.out NB106_121.out _) NB106_121.out _⟩
                      have n1_ : Aside0 (((w71.setCell ⟨gb121, 0, none⟩ (.int .u64 ((rd_T146 ((rd_T134 l0 a1).f2) x140_5).f0))).setCell ⟨gb121, 1, none⟩ (.int .i64 ((rd_T146 ((rd_T134 l0 a1).f2) x140_5).f1))).heap[gb121]? = some (.cells #[.int .u64 ((rd_T146 ((rd_T134 l0 a1).f2) x140_5).f0), .int .i64 ((rd_T146 ((rd_T134 l0 a1).f2) x140_5).f1)] 146 (0, 0))) := ⟨blk_put (blk_put BK121.out 0 _ rfl) 1 _ rfl⟩
                      have n2_ : Aside0 (Below w.heap.size w ((w71.setCell ⟨gb121, 0, none⟩ (.int .u64 ((rd_T146 ((rd_T134 l0 a1).f2) x140_5).f0))).setCell ⟨gb121, 1, none⟩ (.int .i64 ((rd_T146 ((rd_T134 l0 a1).f2) x140_5).f1)))) := ⟨bel_⟩
                      (try clear BK106)
                      (try clear BK121)
                      (try clear HB)
                      generalize ((w71.setCell ⟨gb121, 0, none⟩ (.int .u64 ((rd_T146 ((rd_T134 l0 a1).f2) x140_5).f0))).setCell ⟨gb121, 1, none⟩ (.int .i64 ((rd_T146 ((rd_T134 l0 a1).f2) x140_5).f1))) = w74 at n0_ n1_ n2_ ⊢
                      have BK106 := n0_
                      have BK121 := n1_
                      have HB := n2_
                      clear n0_ n1_ n2_
                      have hcq0_ : w74.cell? ⟨gb106, 0, none⟩ = some (.int .u64 ((rd_T134 l0 a1).f0)) := (blk_cell BK106.out 0).trans rfl
                      have hfq0_ := blk_frozen BK106.out 0
                      have hcq1_ : w74.cell? ⟨gb106, 1, none⟩ = some (.int .u64 ((rd_T134 l0 a1).f1)) := (blk_cell BK106.out 1).trans rfl
                      have hfq1_ := blk_frozen BK106.out 1
                      have hcq2_ : w74.cell? ⟨gb106, 2, none⟩ = some (.slice (some ad120) ((rd_T134 l0 a1).f2).length c105_2) := (blk_cell BK106.out 2).trans rfl
                      have hfq2_ := blk_frozen BK106.out 2
                      have hcq3_ : w74.cell? ⟨gb121, 0, none⟩ = some (.int .u64 ((rd_T146 ((rd_T134 l0 a1).f2) x140_5).f0)) := (blk_cell BK121.out 0).trans rfl
                      have hfq3_ := blk_frozen BK121.out 0
                      have hcq4_ : w74.cell? ⟨gb121, 1, none⟩ = some (.int .i64 ((rd_T146 ((rd_T134 l0 a1).f2) x140_5).f1)) := (blk_cell BK121.out 1).trans rfl
                      have hfq4_ := blk_frozen BK121.out 1
                      go_quiet (first | (go_at_call 30; (with_reducible refine (epicycleref02_Pow.calls k5 ((rd_T134 l0 a1).f1) (IntKind.u64.wrap (Int.tdiv (IntKind.u64.wrap (((rd_T134 l0 a1).f0) - 1)) ((rd_T146 ((rd_T134 l0 a1).f2) x140_5).f0))) ((rd_T134 l0 a1).f0) t122 _ A69.out).mono ?_); rintro e w' ⟨rfl, ⟨nd, rfl⟩⟩; (try first | exact qA | exact qB)))
                      try go_wp2
                      go_ret
                      exact ⟨eq_, bel_⟩
                     ·rw [if_neg c70] at H
                      have c70b0 := beq_eq_false_iff_ne.mpr c70
                      have c70b1 := bne_iff_ne.mpr c70
                      have H' := Aside0.mk H
                      clear H
                      have p120 : 0 ≤ (x140_5 : Int) := of_decide_eq_true (by assumption)
                      have q120 : x140_5 < (((rd_T134 l0 a1).f2).length : Int) := of_decide_eq_true (by assumption)
                      obtain ⟨ad120, e120, hx120_0, hx120_1⟩ := at_T146 HR105_2.out x140_5 p120 q120
                      cases e120
                      replace hx120_0 := hb_ HB.out hx120_0
                      replace hx120_1 := hb_ HB.out hx120_1
                      replace p120 := eq_true p120
                      replace q120 := eq_true q120
                      try go_wp2_with (first | ((with_reducible refine gate_dst (N := 10) rfl ?_); (try (refine gate_guard (by rfl) ?_; dsimp only)); refine be_ 10 #[.int .u64 0, .int .i64 0] 146 ?_; intro gb121 hg w76 hbox hb; have n0_ := Aside0.mk (blk_below BK106.out hb); have n1_ := Aside0.mk (below_step bel_ hb); have n2_ := Aside0.mk (hbox); have n3_ := Aside0.mk ((by rw [hg]; exact (below_size bel_) : w.heap.size ≤ gb121)); have n4_ := Aside0.mk ((by rw [hg]; exact (below_size bel_) : w.heap.size ≤ gb121)); have n5_ := Aside0.mk ((by rw [hg]; exact Nat.ne_of_lt (blk_lt BK106.out) : gb106 ≠ gb121)); have n6_ := Aside0.mk ((by rw [hg]; exact Nat.ne_of_gt (blk_lt BK106.out) : gb121 ≠ gb106)); clear BK106; clear HB; have BK106 := n0_; have HB := n1_; have BK121 := n2_; have GW121 := n3_; have GE121 := n4_; have NB106_121 := n5_; have NB121_106 := n6_; clear n0_ n1_ n2_ n3_ n4_ n5_ n6_; clear hb hbox hg; have hnb77 := NB121_106.out; have hnc77 := NB106_121.out; have hcz78_0 := bc_ BK121.out 0 rfl; have hcz78_1 := bc_ BK121.out 1 rfl; have hfz78_0 := blk_frozen BK121.out 0; have hfz78_1 := blk_frozen BK121.out 1))
                      have n0_ : Aside0 (((w76.setCell ⟨gb121, 0, none⟩ (.int .u64 ((rd_T146 ((rd_T134 l0 a1).f2) x140_5).f0))).setCell ⟨gb121, 1, none⟩ (.int .i64 ((rd_T146 ((rd_T134 l0 a1).f2) x140_5).f1))).heap[gb106]? = some (.cells #[.int .u64 ((rd_T134 l0 a1).f0), .int .u64 ((rd_T134 l0 a1).f1), .slice (some ad120) ((rd_T134 l0 a1).f2).length c105_2] 134 (0, 0))) := ⟨blk_far (blk_far BK106.out NB106_121.out _) NB106_121.out _⟩
                      have n1_ : Aside0 (((w76.setCell ⟨gb121, 0, none⟩ (.int .u64 ((rd_T146 ((rd_T134 l0 a1).f2) x140_5).f0))).setCell ⟨gb121, 1, none⟩ (.int .i64 ((rd_T146 ((rd_T134 l0 a1).f2) x140_5).f1))).heap[gb121]? = some (.cells #[.int .u64 ((rd_T146 ((rd_T134 l0 a1).f2) x140_5).f0), .int .i64 ((rd_T146 ((rd_T134 l0 a1).f2) x140_5).f1)] 146 (0, 0))) := ⟨blk_put (blk_put BK121.out 0 _ rfl) 1 _ rfl⟩
                      have n2_ : Aside0 (Below w.heap.size w ((w76.setCell ⟨gb121, 0, none⟩ (.int .u64 ((rd_T146 ((rd_T134 l0 a1).f2) x140_5).f0))).setCell ⟨gb121, 1, none⟩ (.int .i64 ((rd_T146 ((rd_T134 l0 a1).f2) x140_5).f1)))) := ⟨bel_⟩
                      (try clear BK106)
                      (try clear BK121)
                      (try clear HB)
                      generalize ((w76.setCell ⟨gb121, 0, none⟩ (.int .u64 ((rd_T146 ((rd_T134 l0 a1).f2) x140_5).f0))).setCell ⟨gb121, 1, none⟩ (.int .i64 ((rd_T146 ((rd_T134 l0 a1).f2) x140_5).f1))) = w79 at n0_ n1_ n2_ ⊢
                      have BK106 := n0_
                      have BK121 := n1_
                      have HB := n2_
                      clear n0_ n1_ n2_
                      have hcq0_ : w79.cell? ⟨gb106, 0, none⟩ = some (.int .u64 ((rd_T134 l0 a1).f0)) := (blk_cell BK106.out 0).trans rfl
                      have hfq0_ := blk_frozen BK106.out 0
                      have hcq1_ : w79.cell? ⟨gb106, 1, none⟩ = some (.int .u64 ((rd_T134 l0 a1).f1)) := (blk_cell BK106.out 1).trans rfl
                      have hfq1_ := blk_frozen BK106.out 1
                      have hcq2_ : w79.cell? ⟨gb106, 2, none⟩ = some (.slice (some ad120) ((rd_T134 l0 a1).f2).length c105_2) := (blk_cell BK106.out 2).trans rfl
                      have hfq2_ := blk_frozen BK106.out 2
                      have hcq3_ : w79.cell? ⟨gb121, 0, none⟩ = some (.int .u64 ((rd_T146 ((rd_T134 l0 a1).f2) x140_5).f0)) := (blk_cell BK121.out 0).trans rfl
                      have hfq3_ := blk_frozen BK121.out 0
                      have hcq4_ : w79.cell? ⟨gb121, 1, none⟩ = some (.int .i64 ((rd_T146 ((rd_T134 l0 a1).f2) x140_5).f1)) := (blk_cell BK121.out 1).trans rfl
                      have hfq4_ := blk_frozen BK121.out 1
                      go_quiet (first | (go_at_call 30; (with_reducible refine (epicycleref02_Pow.calls k5 ((rd_T134 l0 a1).f1) (IntKind.u64.wrap (Int.tdiv (IntKind.u64.wrap (((rd_T134 l0 a1).f0) - 1)) ((rd_T146 ((rd_T134 l0 a1).f2) x140_5).f0))) ((rd_T134 l0 a1).f0) t122 _ A69.out).mono ?_); rintro e w' ⟨rfl, ⟨nd, rfl⟩⟩; (try first | exact qA | exact qB)))
                      try go_wp2
                      go_roundg k5
                      case measure => have := HJ4.out; have := HJ25.out; have := HK3.out; have := HJ50.out; have := HK5.out; omega
                      case rel => exact ⟨(wrap64 (x140_5 + 1)), eq_, H', ⟨by have := HJ4.out; have := HJ25.out; have := HK3.out; have := HJ50.out; have := HK5.out; omega⟩, ⟨blkx_ BK106.out⟩, ⟨bel_⟩⟩
                   ·rw [if_neg c67] at H
                    exact absurd H (by simp)
                  ·rw [if_neg c66] at H
                   exact absurd H (by simp)
                 ·rw [if_neg c65] at H
                  have c65b0 := decide_eq_false c65
                  clear c65
                  obtain rfl := Option.some.inj H
                  go_wp2
                  go_ret
                  exact ⟨eq_, bel_⟩
  ·rw [if_neg c4] at H
   exact absurd H (by simp)
 ·rw [if_neg c3] at H
  exact absurd H (by simp)
end Go.Proofs.YtndkmnjbjlfeaaaGreat.XR
end
section
namespace Go.Proofs.YtndkmnjbjlfeaaaGreat.XR
open Go.RowKit Go.Proofs.YtndkmnjbjlfeaaaGreat.Given Go.Proofs.YtndkmnjbjlfeaaaGreat.XS Go.Proofs.YtndkmnjbjlfeaaaGreatW.PrintWords Go.Proofs.YtndkmnjbjlfeaaaGreatW.PrintLast Go.Proofs.YtndkmnjbjlfeaaaGreatW.PrintMore
attribute [local go_sem] max2_int min2_int max_two min_two max_three min_three max_four min_four   -- for this text's walks alone
set_option linter.unusedVariables false
set_option linter.unusedSimpArgs false
def epicycleref04_Check.l0 : Nat → List (S134) → Int → Int → Option (Int × Int)
 | 0, _, _, _ => none
 | k + 1, x0, x9, x10 => if x10 < x9 then ((epicycleref04_Right.f k x0 x10).bind fun t123 => (if t123 = true then (epicycleref04_Check.l0 k x0 x9 (wrap64 (x10 + 1))) else (some (x10, 3)))) else (some (0, 0))
def epicycleref04_Check.f (k : Nat) (l0 : List (S134)) : Option (Int × Int) := if (l0.length : Int) > 32 then (some (0, 13)) else (epicycleref04_Check.l0 k l0 (l0.length : Int) 0)
set_option maxHeartbeats 8000000 in
set_option maxRecDepth 100000 in
theorem epicycleref04_Check.calls (k : Nat) (A0 : Option Addr) (c0 : Nat) (l0 : List (S134)) (r1 : Int) (r2 : Int) (w : World) (hr0 : Kd.C k134 w A0 l0.length l0) (hc0 : l0.length ≤ c0) (h : epicycleref04_Check.f k l0 = some (r1, r2)) :
  Calls Tryz.prog 91 #[.slice A0 l0.length c0] w fun e w' => e = .returned (.tuple #[.int .i64 r1, .int .i64 r2]) ∧ Below w.heap.size w w' := by
 have HR0 := Aside0.mk hr0
 have HC0 := Aside0.mk hc0
 clear hr0 hc0
 have HB := Aside0.mk (Below.refl w.heap.size w)
 have H := h; unfold epicycleref04_Check.f at H
 clear h
 by_cases c2 : (l0.length : Int) > 32
 ·rw [if_pos c2] at H
  have c2b0 := decide_eq_true c2
  have c2b1 : decide (32 < l0.length) = true := decide_eq_true (by omega)
  clear c2
  simp only [Option.some.injEq, Prod.mk.injEq] at H
  obtain ⟨rfl, rfl⟩ := H
  go_enter Tryz.func91, Tryz.ntmps91
  go_wp2
  go_ret2
  exact ⟨by first | rfl | (simp [errW_none, errW_some] <;> rfl) | (simp [*, errW_none, errW_some] <;> rfl), bel_⟩
 ·rw [if_neg c2] at H
  have c2b0 := decide_eq_false c2
  have c2b1 : decide (32 < l0.length) = false := decide_eq_false (by omega)
  clear c2
  have H' := Aside0.mk H
  clear H
  go_enter Tryz.func91, Tryz.ntmps91
  go_wp2
  go_loopg [10] k (fun kq v10 w' => ∃ (x10_1 : Int), v10 = .int .i64 x10_1 ∧ Aside0 (epicycleref04_Check.l0 kq l0 (l0.length : Int) x10_1 = some (r1, r2)) ∧ Aside0 (kq ≤ k) ∧ Aside0 (Below w.heap.size w w'))
  case atStart => exact ⟨(0), eq_, H', ⟨Nat.le_refl _⟩, ⟨bel_⟩⟩
  case round =>
   clear H'
   obtain ⟨x10_1, rfl, HA, HK1, HB⟩ := hrel
   cases gk with
   | zero => exact absurd HA.out (by simp [epicycleref04_Check.l0])
   | succ k1 =>
    have H := HA.out
    clear HA
    simp only [epicycleref04_Check.l0] at H
    by_cases c3 : x10_1 < (l0.length : Int)
    ·rw [if_pos c3] at H
     have c3b0 := decide_eq_true c3
     clear c3
     replace H := Option.bind_eq_some_iff.mp H
     obtain ⟨t123, A40, H⟩ := H
     (try dsimp only at H)
     have A4 := Aside0.mk A40
     clear A40
     by_cases c5 : t123 = true
     ·subst c5
      have H1 := H; rw [if_pos rfl] at H1
      clear H
      have H := H1
      clear H1
      have H' := Aside0.mk H
      clear H
      go_wp2_with (first | ((with_reducible refine gate_callee (f := 122) rfl ?_); refine goesL_ (some 15) rfl rfl Tryz.func122 (by kernel_rfl) rfl #[.slice A0 l0.length c0, .int .i64 x10_1] rfl ga_ ?_; (with_reducible refine (epicycleref04_Right.calls k1 _ _ l0 x10_1 true _ ?side1 ?side2 A4.out).mono ?_); (case side1 => exact cal_ (Kd.C_below HR0.out HB.out)); (case side2 => exact HC0.out); rintro e w6 ⟨rfl, hb⟩; refine ⟨_, rfl, ?_⟩; have n0_ := Aside0.mk (below_step bel_ hb); clear HB; have HB := n0_; clear n0_; (try clear hb); (try clear hb2); (try clear hk); (try clear hi)))
      go_roundg k1
      case measure => have := HK1.out; omega
      case rel => exact ⟨(wrap64 (x10_1 + 1)), eq_, H', ⟨by have := HK1.out; omega⟩, ⟨bel_⟩⟩
     ·replace c5 := Bool.eq_false_iff.mpr c5
      subst c5
      have H1 := H; rw [if_neg (show ¬ (false = true) by decide)] at H1
      clear H
      have H := H1
      clear H1
      simp only [Option.some.injEq, Prod.mk.injEq] at H
      obtain ⟨rfl, rfl⟩ := H
      go_wp2_with (first | ((with_reducible refine gate_callee (f := 122) rfl ?_); refine goesL_ (some 15) rfl rfl Tryz.func122 (by kernel_rfl) rfl #[.slice A0 l0.length c0, .int .i64 x10_1] rfl ga_ ?_; (with_reducible refine (epicycleref04_Right.calls k1 _ _ l0 x10_1 false _ ?side1 ?side2 A4.out).mono ?_); (case side1 => exact cal_ (Kd.C_below HR0.out HB.out)); (case side2 => exact HC0.out); rintro e w7 ⟨rfl, hb⟩; refine ⟨_, rfl, ?_⟩; have n0_ := Aside0.mk (below_step bel_ hb); clear HB; have HB := n0_; clear n0_; (try clear hb); (try clear hb2); (try clear hk); (try clear hi)))
      go_ret2
      exact ⟨by first | rfl | (simp [errW_none, errW_some] <;> rfl) | (simp [*, errW_none, errW_some] <;> rfl), bel_⟩
    ·rw [if_neg c3] at H
     have c3b0 := decide_eq_false c3
     clear c3
     simp only [Option.some.injEq, Prod.mk.injEq] at H
     obtain ⟨rfl, rfl⟩ := H
     go_wp2
     go_ret2
     exact ⟨by first | rfl | (simp [errW_none, errW_some] <;> rfl) | (simp [*, errW_none, errW_some] <;> rfl), bel_⟩
end Go.Proofs.YtndkmnjbjlfeaaaGreat.XR
end
section

end
section
namespace Go.Proofs.YtndkmnjbjlfeaaaGreat.XO
open Go.RowKit Go.Proofs.YtndkmnjbjlfeaaaGreat.Given Go.Proofs.YtndkmnjbjlfeaaaGreat.XS Go.Proofs.YtndkmnjbjlfeaaaGreat.XR Go.Proofs.YtndkmnjbjlfeaaaGreatW.PrintWords Go.Proofs.YtndkmnjbjlfeaaaGreatW.PrintLast Go.Proofs.YtndkmnjbjlfeaaaGreatW.PrintMore
attribute [local go_sem] max2_int min2_int max_two min_two max_three min_three max_four min_four
set_option linter.unusedVariables false
set_option linter.unusedSimpArgs false
mutual
def epicycleref06_Of.j0 : Nat → Bool → Option (Int × Int × Int)
 | 0, _ => none
 | k + 1, x35 => if x35 = true then (some (0, 0, 1)) else (none)
def epicycleref06_Of.l0 : Nat → List (S134) → Int → Int → Int → Int → Int → List (S134) → Option (Int × Int × Int)
 | 0, _, _, _, _, _, _, _ => none
 | k + 1, x51, x52, x53, x102000, x102001, x102002, x102003 => if x53 < x52 then (if 0 ≤ x53 then (if x53 < (x51.length : Int) then (if (((rd_T134 x51 x53).f2).length : Int) > 20 then (some (0, 0, 3)) else (epicycleref06_Of.l0 k x51 x52 (wrap64 (x53 + 1)) x102000 x102001 x102002 x102003)) else (none)) else (none)) else ((epicycleref04_Check.f k x102003).bind fun bt106 => (if bt106.2 = 0 then (epicycleref06_Of.l1 k x102003 (x102003.length : Int) 0 x102000 x102001 x102002 x102003) else (some (0, 0, bt106.2))))
def epicycleref06_Of.l1 : Nat → List (S134) → Int → Int → Int → Int → Int → List (S134) → Option (Int × Int × Int)
 | 0, _, _, _, _, _, _, _ => none
 | k + 1, x72, x73, x74, x102000, x102001, x102002, x102003 => if x74 < x73 then (if 0 ≤ x74 then (if x74 < (x72.length : Int) then (if ((rd_T134 x72 x74).f0) = x102002 then (some ((rd_T134 x72 x74).f0, (rd_T134 x72 x74).f1, 0)) else (epicycleref06_Of.l1 k x72 x73 (wrap64 (x74 + 1)) x102000 x102001 x102002 x102003)) else (none)) else (none)) else (some (0, 0, 14))
end
def epicycleref06_Of.f (k : Nat) (a0_0 : Int) (a0_1 : Int) (a0_2 : Int) (l0_3 : List (S134)) : Option (Int × Int × Int) := if a0_0 = 0 then ((epicycleref05_Odd.f k a0_2).bind fun t102 => (if t102 = true then ((epicycleref05_Generator.f k a0_2).bind fun t103 => (some (a0_2, t103, 0))) else (some (0, 0, 1)))) else (if a0_0 = 1 then (if a0_1 < 0 then (epicycleref06_Of.j0 k true) else (epicycleref06_Of.j0 k (decide (a0_1 > 5)))) else (if (l0_3.length : Int) > 40 then (some (0, 0, 13)) else (epicycleref06_Of.l0 k l0_3 (l0_3.length : Int) 0 a0_0 a0_1 a0_2 l0_3)))
set_option maxHeartbeats 8000000 in
set_option maxRecDepth 100000 in
theorem epicycleref06_Of.calls (k : Nat) (a0_0 : Int) (a0_1 : Int) (a0_2 : Int) (A0_3 : Option Addr) (c0_3 : Nat) (l0_3 : List (S134)) (r1 : Int) (r2 : Int) (r3 : Int) (w : World) (hr0_3 : Kd.C k134 w A0_3 l0_3.length l0_3) (hc0_3 : l0_3.length ≤ c0_3) (h : epicycleref06_Of.f k a0_0 a0_1 a0_2 l0_3 = some (r1, r2, r3)) :
  Calls Tryz.prog 49 #[.agg #[.int .i64 a0_0, .int .i64 a0_1, .int .u64 a0_2, .slice A0_3 l0_3.length c0_3]] w fun e w' => e = .returned (.tuple #[.int .u64 r1, .int .u64 r2, .int .i64 r3]) ∧ Below w.heap.size w w' := by
 have hu25 := Tryz.underlying25
 have hu134 := Tryz.underlying134
 have HR0_3 := Aside0.mk hr0_3
 have HC0_3 := Aside0.mk hc0_3
 clear hr0_3 hc0_3
 have HB := Aside0.mk (Below.refl w.heap.size w)
 have H := h; unfold epicycleref06_Of.f at H
 clear h
 by_cases c2 : a0_0 = 0
 ·rw [if_pos c2] at H
  have c2b0 := beq_iff_eq.mpr c2
  have c2b1 := bne_eq_false_iff_eq.mpr c2
  clear c2
  replace H := Option.bind_eq_some_iff.mp H
  obtain ⟨t102, A30, H⟩ := H
  (try dsimp only at H)
  have A3 := Aside0.mk A30
  clear A30
  by_cases c4 : t102 = true
  ·subst c4
   have H1 := H; rw [if_pos rfl] at H1
   clear H
   have H := H1
   clear H1
   replace H := Option.bind_eq_some_iff.mp H
   obtain ⟨t103, A50, H⟩ := H
   (try dsimp only at H)
   have A5 := Aside0.mk A50
   clear A50
   simp only [Option.some.injEq, Prod.mk.injEq] at H
   obtain ⟨rfl, rfl, rfl⟩ := H
   go_enter Tryz.func49, Tryz.ntmps49
   go_wp2_with (first | ((with_reducible refine gate_dst (N := 1) rfl ?_); refine be_ 1 #[.int .i64 a0_0, .int .i64 a0_1, .int .u64 a0_2, .slice A0_3 l0_3.length c0_3] 25 ?_; intro gb101 hg w6 hbox hb; have n0_ := Aside0.mk (below_step bel_ hb); have n1_ := Aside0.mk (hbox); have n2_ := Aside0.mk ((by rw [hg]; exact (below_size bel_) : w.heap.size ≤ gb101)); have n3_ := Aside0.mk ((by rw [hg]; exact (below_size bel_) : w.heap.size ≤ gb101)); clear HB; have HB := n0_; have BK101 := n1_; have GW101 := n2_; have GE101 := n3_; clear n0_ n1_ n2_ n3_; clear hb hbox hg; have hcz7_0 := bc_ BK101.out 0 rfl; have hcz7_1 := bc_ BK101.out 1 rfl; have hcz7_2 := bc_ BK101.out 2 rfl; have hcz7_3 := bc_ BK101.out 3 rfl; have hfz7_0 := blk_frozen BK101.out 0; have hfz7_1 := blk_frozen BK101.out 1; have hfz7_2 := blk_frozen BK101.out 2; have hfz7_3 := blk_frozen BK101.out 3) | (go_at_call 89; (with_reducible refine (epicycleref05_Odd.calls k a0_2 true _ A3.out).mono ?_); rintro e w' ⟨rfl, ⟨nd, rfl⟩⟩; (try first | exact ⟨rfl, _, World.drewN_drewN _ _ _⟩ | exact ⟨rfl, _, Eq.trans (World.drewN_drewN _ _ _) (congrArg (World.drewN _) (Nat.add_assoc _ _ _))⟩)) | (go_at_call 90; (with_reducible refine (epicycleref05_Generator.calls k a0_2 t103 _ A5.out).mono ?_); rintro e w' ⟨rfl, ⟨nd, rfl⟩⟩; (try first | exact ⟨rfl, _, World.drewN_drewN _ _ _⟩ | exact ⟨rfl, _, Eq.trans (World.drewN_drewN _ _ _) (congrArg (World.drewN _) (Nat.add_assoc _ _ _))⟩)))
   repeat (go_quiet (first | ((with_reducible refine gate_dst (N := 1) rfl ?_); refine be_ 1 #[.int .i64 a0_0, .int .i64 a0_1, .int .u64 a0_2, .slice A0_3 l0_3.length c0_3] 25 ?_; intro gb101 hg w6 hbox hb; have n0_ := Aside0.mk (below_step bel_ hb); have n1_ := Aside0.mk (hbox); have n2_ := Aside0.mk ((by rw [hg]; exact (below_size bel_) : w.heap.size ≤ gb101)); have n3_ := Aside0.mk ((by rw [hg]; exact (below_size bel_) : w.heap.size ≤ gb101)); clear HB; have HB := n0_; have BK101 := n1_; have GW101 := n2_; have GE101 := n3_; clear n0_ n1_ n2_ n3_; clear hb hbox hg; have hcz7_0 := bc_ BK101.out 0 rfl; have hcz7_1 := bc_ BK101.out 1 rfl; have hcz7_2 := bc_ BK101.out 2 rfl; have hcz7_3 := bc_ BK101.out 3 rfl; have hfz7_0 := blk_frozen BK101.out 0; have hfz7_1 := blk_frozen BK101.out 1; have hfz7_2 := blk_frozen BK101.out 2; have hfz7_3 := blk_frozen BK101.out 3) | (go_at_call 89; (with_reducible refine (epicycleref05_Odd.calls k a0_2 true _ A3.out).mono ?_); rintro e w' ⟨rfl, ⟨nd, rfl⟩⟩; (try first | exact ⟨rfl, _, World.drewN_drewN _ _ _⟩ | exact ⟨rfl, _, Eq.trans (World.drewN_drewN _ _ _) (congrArg (World.drewN _) (Nat.add_assoc _ _ _))⟩)) | (go_at_call 90; (with_reducible refine (epicycleref05_Generator.calls k a0_2 t103 _ A5.out).mono ?_); rintro e w' ⟨rfl, ⟨nd, rfl⟩⟩; (try first | exact ⟨rfl, _, World.drewN_drewN _ _ _⟩ | exact ⟨rfl, _, Eq.trans (World.drewN_drewN _ _ _) (congrArg (World.drewN _) (Nat.add_assoc _ _ _))⟩))); try go_wp2_with (first | ((with_reducible refine gate_dst (N := 1) rfl ?_); refine be_ 1 #[.int .i64 a0_0, .int .i64 a0_1, .int .u64 a0_2, .slice A0_3 l0_3.length c0_3] 25 ?_; intro gb101 hg w6 hbox hb; have n0_ := Aside0.mk (below_step bel_ hb); have n1_ := Aside0.mk (hbox); have n2_ := Aside0.mk ((by rw [hg]; exact (below_size bel_) : w.heap.size ≤ gb101)); have n3_ := Aside0.mk ((by rw [hg]; exact (below_size bel_) : w.heap.size ≤ gb101)); clear HB; have HB := n0_; have BK101 := n1_; have GW101 := n2_; have GE101 := n3_; clear n0_ n1_ n2_ n3_; clear hb hbox hg; have hcz7_0 := bc_ BK101.out 0 rfl; have hcz7_1 := bc_ BK101.out 1 rfl; have hcz7_2 := bc_ BK101.out 2 rfl; have hcz7_3 := bc_ BK101.out 3 rfl; have hfz7_0 := blk_frozen BK101.out 0; have hfz7_1 := blk_frozen BK101.out 1; have hfz7_2 := blk_frozen BK101.out 2; have hfz7_3 := blk_frozen BK101.out 3) | (go_at_call 89; (with_reducible refine (epicycleref05_Odd.calls k a0_2 true _ A3.out).mono ?_); rintro e w' ⟨rfl, ⟨nd, rfl⟩⟩; (try first | exact ⟨rfl, _, World.drewN_drewN _ _ _⟩ | exact ⟨rfl, _, Eq.trans (World.drewN_drewN _ _ _) (congrArg (World.drewN _) (Nat.add_assoc _ _ _))⟩)) | (go_at_call 90; (with_reducible refine (epicycleref05_Generator.calls k a0_2 t103 _ A5.out).mono ?_); rintro e w' ⟨rfl, ⟨nd, rfl⟩⟩; (try first | exact ⟨rfl, _, World.drewN_drewN _ _ _⟩ | exact ⟨rfl, _, Eq.trans (World.drewN_drewN _ _ _) (congrArg (World.drewN _) (Nat.add_assoc _ _ _))⟩))))
   go_ret3
   exact ⟨eq_, bel_⟩
  ·replace c4 := Bool.eq_false_iff.mpr c4
   subst c4
   have H1 := H; rw [if_neg (show ¬ (false = true) by decide)] at H1
   clear H
   have H := H1
   clear H1
   simp only [Option.some.injEq, Prod.mk.injEq] at H
   obtain ⟨rfl, rfl, rfl⟩ := H
   go_enter Tryz.func49, Tryz.ntmps49
   go_wp2_with (first | ((with_reducible refine gate_dst (N := 1) rfl ?_); refine be_ 1 #[.int .i64 a0_0, .int .i64 a0_1, .int .u64 a0_2, .slice A0_3 l0_3.length c0_3] 25 ?_; intro gb101 hg w8 hbox hb; have n0_ := Aside0.mk (below_step bel_ hb); have n1_ := Aside0.mk (hbox); have n2_ := Aside0.mk ((by rw [hg]; exact (below_size bel_) : w.heap.size ≤ gb101)); have n3_ := Aside0.mk ((by rw [hg]; exact (below_size bel_) : w.heap.size ≤ gb101)); clear HB; have HB := n0_; have BK101 := n1_; have GW101 := n2_; have GE101 := n3_; clear n0_ n1_ n2_ n3_; clear hb hbox hg; have hcz9_0 := bc_ BK101.out 0 rfl; have hcz9_1 := bc_ BK101.out 1 rfl; have hcz9_2 := bc_ BK101.out 2 rfl; have hcz9_3 := bc_ BK101.out 3 rfl; have hfz9_0 := blk_frozen BK101.out 0; have hfz9_1 := blk_frozen BK101.out 1; have hfz9_2 := blk_frozen BK101.out 2; have hfz9_3 := blk_frozen BK101.out 3) | (go_at_call 89; (with_reducible refine (epicycleref05_Odd.calls k a0_2 false _ A3.out).mono ?_); rintro e w' ⟨rfl, ⟨nd, rfl⟩⟩; (try first | exact ⟨rfl, _, World.drewN_drewN _ _ _⟩ | exact ⟨rfl, _, Eq.trans (World.drewN_drewN _ _ _) (congrArg (World.drewN _) (Nat.add_assoc _ _ _))⟩)))
   go_ret3
   exact ⟨eq_, bel_⟩
 ·rw [if_neg c2] at H
  have c2b0 := beq_eq_false_iff_ne.mpr c2
  have c2b1 := bne_iff_ne.mpr c2
  by_cases c10 : a0_0 = 1
  ·rw [if_pos c10] at H
   have c10b0 := beq_iff_eq.mpr c10
   have c10b1 := bne_eq_false_iff_eq.mpr c10
   clear c10
   have HC11 := Aside0.mk H
   clear H
   go_enter Tryz.func49, Tryz.ntmps49
   go_upto_region 7 with (first | ((with_reducible refine gate_dst (N := 1) rfl ?_); refine be_ 1 #[.int .i64 a0_0, .int .i64 a0_1, .int .u64 a0_2, .slice A0_3 l0_3.length c0_3] 25 ?_; intro gb101 hg w12 hbox hb; have n0_ := Aside0.mk (below_step bel_ hb); have n1_ := Aside0.mk (hbox); have n2_ := Aside0.mk ((by rw [hg]; exact (below_size bel_) : w.heap.size ≤ gb101)); have n3_ := Aside0.mk ((by rw [hg]; exact (below_size bel_) : w.heap.size ≤ gb101)); clear HB; have HB := n0_; have BK101 := n1_; have GW101 := n2_; have GE101 := n3_; clear n0_ n1_ n2_ n3_; clear hb hbox hg; have hcz13_0 := bc_ BK101.out 0 rfl; have hcz13_1 := bc_ BK101.out 1 rfl; have hcz13_2 := bc_ BK101.out 2 rfl; have hcz13_3 := bc_ BK101.out 3 rfl; have hfz13_0 := blk_frozen BK101.out 0; have hfz13_1 := blk_frozen BK101.out 1; have hfz13_2 := blk_frozen BK101.out 2; have hfz13_3 := blk_frozen BK101.out 3))
   (try simp only [Act.put, List.setIfInBounds_toArray, List.set_cons_zero, List.set_cons_succ])
   go_cut [35] (fun v35 wc => ∃ (kq : Nat) (x35_10 : Bool), v35 = .bool x35_10 ∧ Aside0 (epicycleref06_Of.j0 kq x35_10 = some (r1, r2, r3)) ∧ Aside0 (kq ≤ k) ∧ Aside0 (wc.heap[gb101]? = some (.cells #[.int .i64 a0_0, .int .i64 a0_1, .int .u64 a0_2, (.slice A0_3 l0_3.length c0_3)] 25 (0, 0))) ∧ Aside0 (Below w.heap.size w wc))
   case first =>
    have H := HC11.out
    clear HC11
    by_cases c14 : a0_1 < 0
    ·rw [if_pos c14] at H
     have c14b0 := decide_eq_true c14
     clear c14
     (first | rw [c14b0] | (simp only [i64_w, i32_w]; rw [c14b0]) | skip)
     have H' := Aside0.mk H
     clear H
     have hcz15_0 := bc_ BK101.out 0 rfl
     have hcz15_1 := bc_ BK101.out 1 rfl
     have hcz15_2 := bc_ BK101.out 2 rfl
     have hcz15_3 := bc_ BK101.out 3 rfl
     have hfz15_0 := blk_frozen BK101.out 0
     have hfz15_1 := blk_frozen BK101.out 1
     have hfz15_2 := blk_frozen BK101.out 2
     have hfz15_3 := blk_frozen BK101.out 3
     go_wp2
     go_meet
     case rel => exact ⟨_, (true), eq_, H', ⟨by first | omega | exact Nat.le_refl _⟩, ⟨blkx_ BK101.out⟩, ⟨bel_⟩⟩
    ·rw [if_neg c14] at H
     have c14b0 := decide_eq_false c14
     clear c14
     (first | rw [c14b0] | (simp only [i64_w, i32_w]; rw [c14b0]) | skip)
     have H' := Aside0.mk H
     clear H
     have hcz16_0 := bc_ BK101.out 0 rfl
     have hcz16_1 := bc_ BK101.out 1 rfl
     have hcz16_2 := bc_ BK101.out 2 rfl
     have hcz16_3 := bc_ BK101.out 3 rfl
     have hfz16_0 := blk_frozen BK101.out 0
     have hfz16_1 := blk_frozen BK101.out 1
     have hfz16_2 := blk_frozen BK101.out 2
     have hfz16_3 := blk_frozen BK101.out 3
     go_wp2
     go_meet
     case rel => exact ⟨_, (decide (a0_1 > 5)), eq_, H', ⟨by first | omega | exact Nat.le_refl _⟩, ⟨blkx_ BK101.out⟩, ⟨bel_⟩⟩
   case rest =>
    clear HC11
    obtain ⟨kq, x35_10, rfl, HA, HJ10, BK101, HB⟩ := hcut
    cases kq with
    | zero => exact absurd HA.out (by simp [epicycleref06_Of.j0])
    | succ kj10 =>
     have H := HA.out
     clear HA
     simp only [epicycleref06_Of.j0] at H
     by_cases c17 : x35_10 = true
     ·subst c17
      have H1 := H; rw [if_pos rfl] at H1
      clear H
      have H := H1
      clear H1
      simp only [Option.some.injEq, Prod.mk.injEq] at H
      obtain ⟨rfl, rfl, rfl⟩ := H
      go_wp2
      go_ret3
      exact ⟨eq_, bel_⟩
     ·replace c17 := Bool.eq_false_iff.mpr c17
      subst c17
      have H1 := H; rw [if_neg (show ¬ (false = true) by decide)] at H1
      clear H
      have H := H1
      clear H1
      exact absurd H (by simp)
  ·rw [if_neg c10] at H
   have c10b0 := beq_eq_false_iff_ne.mpr c10
   have c10b1 := bne_iff_ne.mpr c10
   by_cases c18 : (l0_3.length : Int) > 40
   ·rw [if_pos c18] at H
    have c18b0 := decide_eq_true c18
    have c18b1 : decide (40 < l0_3.length) = true := decide_eq_true (by omega)
    clear c18
    simp only [Option.some.injEq, Prod.mk.injEq] at H
    obtain ⟨rfl, rfl, rfl⟩ := H
    go_enter Tryz.func49, Tryz.ntmps49
    go_wp2_with (first | ((with_reducible refine gate_dst (N := 1) rfl ?_); refine be_ 1 #[.int .i64 a0_0, .int .i64 a0_1, .int .u64 a0_2, .slice A0_3 l0_3.length c0_3] 25 ?_; intro gb101 hg w19 hbox hb; have n0_ := Aside0.mk (below_step bel_ hb); have n1_ := Aside0.mk (hbox); have n2_ := Aside0.mk ((by rw [hg]; exact (below_size bel_) : w.heap.size ≤ gb101)); have n3_ := Aside0.mk ((by rw [hg]; exact (below_size bel_) : w.heap.size ≤ gb101)); clear HB; have HB := n0_; have BK101 := n1_; have GW101 := n2_; have GE101 := n3_; clear n0_ n1_ n2_ n3_; clear hb hbox hg; have hcz20_0 := bc_ BK101.out 0 rfl; have hcz20_1 := bc_ BK101.out 1 rfl; have hcz20_2 := bc_ BK101.out 2 rfl; have hcz20_3 := bc_ BK101.out 3 rfl; have hfz20_0 := blk_frozen BK101.out 0; have hfz20_1 := blk_frozen BK101.out 1; have hfz20_2 := blk_frozen BK101.out 2; have hfz20_3 := blk_frozen BK101.out 3))
    go_ret3
    exact ⟨eq_, bel_⟩
   ·rw [if_neg c18] at H
    have c18b0 := decide_eq_false c18
    have c18b1 : decide (40 < l0_3.length) = false := decide_eq_false (by omega)
    clear c18
    have H' := Aside0.mk H
    clear H
    go_enter Tryz.func49, Tryz.ntmps49
    go_wp2_with (first | ((with_reducible refine gate_dst (N := 1) rfl ?_); refine be_ 1 #[.int .i64 a0_0, .int .i64 a0_1, .int .u64 a0_2, .slice A0_3 l0_3.length c0_3] 25 ?_; intro gb101 hg w21 hbox hb; have n0_ := Aside0.mk (below_step bel_ hb); have n1_ := Aside0.mk (hbox); have n2_ := Aside0.mk ((by rw [hg]; exact (below_size bel_) : w.heap.size ≤ gb101)); have n3_ := Aside0.mk ((by rw [hg]; exact (below_size bel_) : w.heap.size ≤ gb101)); clear HB; have HB := n0_; have BK101 := n1_; have GW101 := n2_; have GE101 := n3_; clear n0_ n1_ n2_ n3_; clear hb hbox hg; have hcz22_0 := bc_ BK101.out 0 rfl; have hcz22_1 := bc_ BK101.out 1 rfl; have hcz22_2 := bc_ BK101.out 2 rfl; have hcz22_3 := bc_ BK101.out 3 rfl; have hfz22_0 := blk_frozen BK101.out 0; have hfz22_1 := blk_frozen BK101.out 1; have hfz22_2 := blk_frozen BK101.out 2; have hfz22_3 := blk_frozen BK101.out 3))
    go_loopg [53] k (fun kq v53 w' => ∃ (x53_1 : Int), v53 = .int .i64 x53_1 ∧ Aside0 (epicycleref06_Of.l0 kq l0_3 (l0_3.length : Int) x53_1 a0_0 a0_1 a0_2 l0_3 = some (r1, r2, r3)) ∧ Aside0 (kq ≤ k) ∧ Aside0 (w'.heap[gb101]? = some (.cells #[.int .i64 a0_0, .int .i64 a0_1, .int .u64 a0_2, (.slice A0_3 l0_3.length c0_3)] 25 (0, 0))) ∧ Aside0 (Below w.heap.size w w'))
    case atStart => exact ⟨(0), eq_, H', ⟨Nat.le_refl _⟩, ⟨blkx_ BK101.out⟩, ⟨bel_⟩⟩
    case round =>
     clear H'
     obtain ⟨x53_1, rfl, HA, HK1, BK101, HB⟩ := hrel
     cases gk with
     | zero => exact absurd HA.out (by simp [epicycleref06_Of.l0])
     | succ k1 =>
      have H := HA.out
      clear HA
      simp only [epicycleref06_Of.l0] at H
      by_cases c23 : x53_1 < (l0_3.length : Int)
      ·rw [if_pos c23] at H
       have c23b0 := decide_eq_true c23
       clear c23
       by_cases c24 : 0 ≤ x53_1
       ·rw [if_pos c24] at H
        have c24b0 := decide_eq_true c24
        clear c24
        by_cases c25 : x53_1 < (l0_3.length : Int)
        ·rw [if_pos c25] at H
         have c25b0 := decide_eq_true c25
         clear c25
         by_cases c26 : (((rd_T134 l0_3 x53_1).f2).length : Int) > 20
         ·rw [if_pos c26] at H
          have c26b0 := decide_eq_true c26
          have c26b1 : decide (20 < ((rd_T134 l0_3 x53_1).f2).length) = true := decide_eq_true (by omega)
          clear c26
          simp only [Option.some.injEq, Prod.mk.injEq] at H
          obtain ⟨rfl, rfl, rfl⟩ := H
          have p104 : 0 ≤ (x53_1 : Int) := of_decide_eq_true (by assumption)
          have q104 : x53_1 < (l0_3.length : Int) := of_decide_eq_true (by assumption)
          obtain ⟨ad104, A104_2, c104_2, e104, hx104_0, hx104_1, hx104_2, hl104_2, hi104_2⟩ := at_T134 HR0_3.out x53_1 p104 q104
          cases e104
          replace hx104_0 := hb_ HB.out hx104_0
          replace hx104_1 := hb_ HB.out hx104_1
          replace hx104_2 := hb_ HB.out hx104_2
          have HR104_2 := Aside0.mk hi104_2
          have HC104_2 := Aside0.mk hl104_2
          clear hi104_2 hl104_2
          replace p104 := eq_true p104
          replace q104 := eq_true q104
          go_wp2_with (first | ((with_reducible refine gate_dst (N := 8) rfl ?_); refine be_ 8 #[.int .u64 0, .int .u64 0, .slice none 0 0] 134 ?_; intro gb105 hg w27 hbox hb; have n0_ := Aside0.mk (blk_below BK101.out hb); have n1_ := Aside0.mk (below_step bel_ hb); have n2_ := Aside0.mk (hbox); have n3_ := Aside0.mk ((by rw [hg]; exact (below_size bel_) : w.heap.size ≤ gb105)); have n4_ := Aside0.mk ((by rw [hg]; exact (below_size bel_) : w.heap.size ≤ gb105)); have n5_ := Aside0.mk ((by rw [hg]; exact Nat.ne_of_lt (blk_lt BK101.out) : gb101 ≠ gb105)); have n6_ := Aside0.mk ((by rw [hg]; exact Nat.ne_of_gt (blk_lt BK101.out) : gb105 ≠ gb101)); clear BK101; clear HB; have BK101 := n0_; have HB := n1_; have BK105 := n2_; have GW105 := n3_; have GE105 := n4_; have NB101_105 := n5_; have NB105_101 := n6_; clear n0_ n1_ n2_ n3_ n4_ n5_ n6_; clear hb hbox hg; have hnb28 := NB105_101.out; have hnc28 := NB101_105.out; have hcz29_0 := bc_ BK105.out 0 rfl; have hcz29_1 := bc_ BK105.out 1 rfl; have hcz29_2 := bc_ BK105.out 2 rfl; have hfz29_0 := blk_frozen BK105.out 0; have hfz29_1 := blk_frozen BK105.out 1; have hfz29_2 := blk_frozen BK105.out 2))
          go_ret3
          exact ⟨eq_, bel_⟩
         ·rw [if_neg c26] at H
          have c26b0 := decide_eq_false c26
          have c26b1 : decide (20 < ((rd_T134 l0_3 x53_1).f2).length) = false := decide_eq_false (by omega)
          clear c26
          have H' := Aside0.mk H
          clear H
          have p104 : 0 ≤ (x53_1 : Int) := of_decide_eq_true (by assumption)
          have q104 : x53_1 < (l0_3.length : Int) := of_decide_eq_true (by assumption)
          obtain ⟨ad104, A104_2, c104_2, e104, hx104_0, hx104_1, hx104_2, hl104_2, hi104_2⟩ := at_T134 HR0_3.out x53_1 p104 q104
          cases e104
          replace hx104_0 := hb_ HB.out hx104_0
          replace hx104_1 := hb_ HB.out hx104_1
          replace hx104_2 := hb_ HB.out hx104_2
          have HR104_2 := Aside0.mk hi104_2
          have HC104_2 := Aside0.mk hl104_2
          clear hi104_2 hl104_2
          replace p104 := eq_true p104
          replace q104 := eq_true q104
          go_wp2_with (first | ((with_reducible refine gate_dst (N := 8) rfl ?_); refine be_ 8 #[.int .u64 0, .int .u64 0, .slice none 0 0] 134 ?_; intro gb105 hg w30 hbox hb; have n0_ := Aside0.mk (blk_below BK101.out hb); have n1_ := Aside0.mk (below_step bel_ hb); have n2_ := Aside0.mk (hbox); have n3_ := Aside0.mk ((by rw [hg]; exact (below_size bel_) : w.heap.size ≤ gb105)); have n4_ := Aside0.mk ((by rw [hg]; exact (below_size bel_) : w.heap.size ≤ gb105)); have n5_ := Aside0.mk ((by rw [hg]; exact Nat.ne_of_lt (blk_lt BK101.out) : gb101 ≠ gb105)); have n6_ := Aside0.mk ((by rw [hg]; exact Nat.ne_of_gt (blk_lt BK101.out) : gb105 ≠ gb101)); clear BK101; clear HB; have BK101 := n0_; have HB := n1_; have BK105 := n2_; have GW105 := n3_; have GE105 := n4_; have NB101_105 := n5_; have NB105_101 := n6_; clear n0_ n1_ n2_ n3_ n4_ n5_ n6_; clear hb hbox hg; have hnb31 := NB105_101.out; have hnc31 := NB101_105.out; have hcz32_0 := bc_ BK105.out 0 rfl; have hcz32_1 := bc_ BK105.out 1 rfl; have hcz32_2 := bc_ BK105.out 2 rfl; have hfz32_0 := blk_frozen BK105.out 0; have hfz32_1 := blk_frozen BK105.out 1; have hfz32_2 := blk_frozen BK105.out 2))
          go_roundg k1
          case measure => have := HK1.out; omega
          case rel => exact ⟨(wrap64 (x53_1 + 1)), eq_, H', ⟨by have := HK1.out; omega⟩, ⟨blk_far (blk_far (blk_far BK101.out NB101_105.out _) NB101_105.out _) NB101_105.out _⟩, ⟨bel_⟩⟩
        ·rw [if_neg c25] at H
         exact absurd H (by simp)
       ·rw [if_neg c24] at H
        exact absurd H (by simp)
      ·rw [if_neg c23] at H
       have c23b0 := decide_eq_false c23
       clear c23
       replace H := Option.bind_eq_some_iff.mp H
       obtain ⟨⟨t106, t107⟩, A330, H⟩ := H
       (try dsimp only at H)
       have A33 := Aside0.mk A330
       clear A330
       by_cases c34 : t107 = 0
       ·rw [if_pos c34] at H
        have c34b0 := beq_iff_eq.mpr c34
        have c34b1 := bne_eq_false_iff_eq.mpr c34
        clear c34
        have H' := Aside0.mk H
        clear H
        have hcz35_0 := bc_ BK101.out 0 rfl
        have hcz35_1 := bc_ BK101.out 1 rfl
        have hcz35_2 := bc_ BK101.out 2 rfl
        have hcz35_3 := bc_ BK101.out 3 rfl
        have hfz35_0 := blk_frozen BK101.out 0
        have hfz35_1 := blk_frozen BK101.out 1
        have hfz35_2 := blk_frozen BK101.out 2
        have hfz35_3 := blk_frozen BK101.out 3
        go_wp2_with (first | (go_at_call 91; (with_reducible refine (epicycleref04_Check.calls k1 _ _ l0_3 t106 t107 _ ?side1 ?side2 A33.out).mono ?_); (case side1 => exact cal_ (Kd.C_below HR0_3.out HB.out)); (case side2 => exact HC0_3.out); rintro e w36 ⟨rfl, hb⟩; have n0_ := Aside0.mk (blk_below BK101.out hb); have n1_ := Aside0.mk (below_step bel_ hb); clear BK101; clear HB; have BK101 := n0_; have HB := n1_; clear n0_ n1_; have hcz37_0 := bc_ BK101.out 0 rfl; have hcz37_1 := bc_ BK101.out 1 rfl; have hcz37_2 := bc_ BK101.out 2 rfl; have hcz37_3 := bc_ BK101.out 3 rfl; have hfz37_0 := blk_frozen BK101.out 0; have hfz37_1 := blk_frozen BK101.out 1; have hfz37_2 := blk_frozen BK101.out 2; have hfz37_3 := blk_frozen BK101.out 3))
        go_loopg [74] k1 (fun kq v74 w' => ∃ (x74_2 : Int), v74 = .int .i64 x74_2 ∧ Aside0 (epicycleref06_Of.l1 kq l0_3 (l0_3.length : Int) x74_2 a0_0 a0_1 a0_2 l0_3 = some (r1, r2, r3)) ∧ Aside0 (kq ≤ k1) ∧ Aside0 (w'.heap[gb101]? = some (.cells #[.int .i64 a0_0, .int .i64 a0_1, .int .u64 a0_2, (.slice A0_3 l0_3.length c0_3)] 25 (0, 0))) ∧ Aside0 (Below w.heap.size w w'))
        case atStart => exact ⟨(0), eq_, H', ⟨Nat.le_refl _⟩, ⟨blkx_ BK101.out⟩, ⟨bel_⟩⟩
        case round =>
         clear H'
         try clear hx1
         try clear hx10
         try clear hx104_0
         try clear hx104_1
         try clear hx104_2
         obtain ⟨x74_2, rfl, HA, HK2, BK101, HB⟩ := hrel
         cases gk with
         | zero => exact absurd HA.out (by simp [epicycleref06_Of.l1])
         | succ k2 =>
          have H := HA.out
          clear HA
          simp only [epicycleref06_Of.l1] at H
          by_cases c38 : x74_2 < (l0_3.length : Int)
          ·rw [if_pos c38] at H
           have c38b0 := decide_eq_true c38
           clear c38
           by_cases c39 : 0 ≤ x74_2
           ·rw [if_pos c39] at H
            have c39b0 := decide_eq_true c39
            clear c39
            by_cases c40 : x74_2 < (l0_3.length : Int)
            ·rw [if_pos c40] at H
             have c40b0 := decide_eq_true c40
             clear c40
             by_cases c41 : ((rd_T134 l0_3 x74_2).f0) = a0_2
             ·rw [if_pos c41] at H
              have c41b0 := beq_iff_eq.mpr c41
              have c41b1 := bne_eq_false_iff_eq.mpr c41
              clear c41
              simp only [Option.some.injEq, Prod.mk.injEq] at H
              obtain ⟨rfl, rfl, rfl⟩ := H
              have p108 : 0 ≤ (x74_2 : Int) := of_decide_eq_true (by assumption)
              have q108 : x74_2 < (l0_3.length : Int) := of_decide_eq_true (by assumption)
              obtain ⟨ad108, A108_2, c108_2, e108, hx108_0, hx108_1, hx108_2, hl108_2, hi108_2⟩ := at_T134 HR0_3.out x74_2 p108 q108
              cases e108
              replace hx108_0 := hb_ HB.out hx108_0
              replace hx108_1 := hb_ HB.out hx108_1
              replace hx108_2 := hb_ HB.out hx108_2
              have HR108_2 := Aside0.mk hi108_2
              have HC108_2 := Aside0.mk hl108_2
              clear hi108_2 hl108_2
              replace p108 := eq_true p108
              replace q108 := eq_true q108
              go_wp2_with (first | ((with_reducible refine gate_dst (N := 12) rfl ?_); refine be_ 12 #[.int .u64 0, .int .u64 0, .slice none 0 0] 134 ?_; intro gb109 hg w42 hbox hb; have n0_ := Aside0.mk (blk_below BK101.out hb); have n1_ := Aside0.mk (below_step bel_ hb); have n2_ := Aside0.mk (hbox); have n3_ := Aside0.mk ((by rw [hg]; exact (below_size bel_) : w.heap.size ≤ gb109)); have n4_ := Aside0.mk ((by rw [hg]; exact (below_size bel_) : w.heap.size ≤ gb109)); have n5_ := Aside0.mk ((by rw [hg]; exact Nat.ne_of_lt (blk_lt BK101.out) : gb101 ≠ gb109)); have n6_ := Aside0.mk ((by rw [hg]; exact Nat.ne_of_gt (blk_lt BK101.out) : gb109 ≠ gb101)); clear BK101; clear HB; have BK101 := n0_; have HB := n1_; have BK109 := n2_; have GW109 := n3_; have GE109 := n4_; have NB101_109 := n5_; have NB109_101 := n6_; clear n0_ n1_ n2_ n3_ n4_ n5_ n6_; clear hb hbox hg; have hnb43 := NB109_101.out; have hnc43 := NB101_109.out; have hcz44_0 := bc_ BK109.out 0 rfl; have hcz44_1 := bc_ BK109.out 1 rfl; have hcz44_2 := bc_ BK109.out 2 rfl; have hfz44_0 := blk_frozen BK109.out 0; have hfz44_1 := blk_frozen BK109.out 1; have hfz44_2 := blk_frozen BK109.out 2; have hcz45_0 := bc_ BK101.out 0 rfl; have hcz45_1 := bc_ BK101.out 1 rfl; have hcz45_2 := bc_ BK101.out 2 rfl; have hcz45_3 := bc_ BK101.out 3 rfl; have hfz45_0 := blk_frozen BK101.out 0; have hfz45_1 := blk_frozen BK101.out 1; have hfz45_2 := blk_frozen BK101.out 2; have hfz45_3 := blk_frozen BK101.out 3))
              repeat (go_quiet (first | ((with_reducible refine gate_dst (N := 12) rfl ?_); refine be_ 12 #[.int .u64 0, .int .u64 0, .slice none 0 0] 134 ?_; intro gb109 hg w42 hbox hb; have n0_ := Aside0.mk (blk_below BK101.out hb); have n1_ := Aside0.mk (below_step bel_ hb); have n2_ := Aside0.mk (hbox); have n3_ := Aside0.mk ((by rw [hg]; exact (below_size bel_) : w.heap.size ≤ gb109)); have n4_ := Aside0.mk ((by rw [hg]; exact (below_size bel_) : w.heap.size ≤ gb109)); have n5_ := Aside0.mk ((by rw [hg]; exact Nat.ne_of_lt (blk_lt BK101.out) : gb101 ≠ gb109)); have n6_ := Aside0.mk ((by rw [hg]; exact Nat.ne_of_gt (blk_lt BK101.out) : gb109 ≠ gb101)); clear BK101; clear HB; have BK101 := n0_; have HB := n1_; have BK109 := n2_; have GW109 := n3_; have GE109 := n4_; have NB101_109 := n5_; have NB109_101 := n6_; clear n0_ n1_ n2_ n3_ n4_ n5_ n6_; clear hb hbox hg; have hnb43 := NB109_101.out; have hnc43 := NB101_109.out; have hcz44_0 := bc_ BK109.out 0 rfl; have hcz44_1 := bc_ BK109.out 1 rfl; have hcz44_2 := bc_ BK109.out 2 rfl; have hfz44_0 := blk_frozen BK109.out 0; have hfz44_1 := blk_frozen BK109.out 1; have hfz44_2 := blk_frozen BK109.out 2; have hcz45_0 := bc_ BK101.out 0 rfl; have hcz45_1 := bc_ BK101.out 1 rfl; have hcz45_2 := bc_ BK101.out 2 rfl; have hcz45_3 := bc_ BK101.out 3 rfl; have hfz45_0 := blk_frozen BK101.out 0; have hfz45_1 := blk_frozen BK101.out 1; have hfz45_2 := blk_frozen BK101.out 2; have hfz45_3 := blk_frozen BK101.out 3)); try go_wp2_with (first | ((with_reducible refine gate_dst (N := 12) rfl ?_); refine be_ 12 #[.int .u64 0, .int .u64 0, .slice none 0 0] 134 ?_; intro gb109 hg w42 hbox hb; have n0_ := Aside0.mk (blk_below BK101.out hb); have n1_ := Aside0.mk (below_step bel_ hb); have n2_ := Aside0.mk (hbox); have n3_ := Aside0.mk ((by rw [hg]; exact (below_size bel_) : w.heap.size ≤ gb109)); have n4_ := Aside0.mk ((by rw [hg]; exact (below_size bel_) : w.heap.size ≤ gb109)); have n5_ := Aside0.mk ((by rw [hg]; exact Nat.ne_of_lt (blk_lt BK101.out) : gb101 ≠ gb109)); have n6_ := Aside0.mk ((by rw [hg]; exact Nat.ne_of_gt (blk_lt BK101.out) : gb109 ≠ gb101)); clear BK101; clear HB; have BK101 := n0_; have HB := n1_; have BK109 := n2_; have GW109 := n3_; have GE109 := n4_; have NB101_109 := n5_; have NB109_101 := n6_; clear n0_ n1_ n2_ n3_ n4_ n5_ n6_; clear hb hbox hg; have hnb43 := NB109_101.out; have hnc43 := NB101_109.out; have hcz44_0 := bc_ BK109.out 0 rfl; have hcz44_1 := bc_ BK109.out 1 rfl; have hcz44_2 := bc_ BK109.out 2 rfl; have hfz44_0 := blk_frozen BK109.out 0; have hfz44_1 := blk_frozen BK109.out 1; have hfz44_2 := blk_frozen BK109.out 2; have hcz45_0 := bc_ BK101.out 0 rfl; have hcz45_1 := bc_ BK101.out 1 rfl; have hcz45_2 := bc_ BK101.out 2 rfl; have hcz45_3 := bc_ BK101.out 3 rfl; have hfz45_0 := blk_frozen BK101.out 0; have hfz45_1 := blk_frozen BK101.out 1; have hfz45_2 := blk_frozen BK101.out 2; have hfz45_3 := blk_frozen BK101.out 3)))
              go_ret3
              exact ⟨eq_, bel_⟩
             ·rw [if_neg c41] at H
              have c41b0 := beq_eq_false_iff_ne.mpr c41
              have c41b1 := bne_iff_ne.mpr c41
              have H' := Aside0.mk H
              clear H
              have p108 : 0 ≤ (x74_2 : Int) := of_decide_eq_true (by assumption)
              have q108 : x74_2 < (l0_3.length : Int) := of_decide_eq_true (by assumption)
              obtain ⟨ad108, A108_2, c108_2, e108, hx108_0, hx108_1, hx108_2, hl108_2, hi108_2⟩ := at_T134 HR0_3.out x74_2 p108 q108
              cases e108
              replace hx108_0 := hb_ HB.out hx108_0
              replace hx108_1 := hb_ HB.out hx108_1
              replace hx108_2 := hb_ HB.out hx108_2
              have HR108_2 := Aside0.mk hi108_2
              have HC108_2 := Aside0.mk hl108_2
              clear hi108_2 hl108_2
              replace p108 := eq_true p108
              replace q108 := eq_true q108
              go_wp2_with (first | ((with_reducible refine gate_dst (N := 12) rfl ?_); refine be_ 12 #[.int .u64 0, .int .u64 0, .slice none 0 0] 134 ?_; intro gb109 hg w46 hbox hb; have n0_ := Aside0.mk (blk_below BK101.out hb); have n1_ := Aside0.mk (below_step bel_ hb); have n2_ := Aside0.mk (hbox); have n3_ := Aside0.mk ((by rw [hg]; exact (below_size bel_) : w.heap.size ≤ gb109)); have n4_ := Aside0.mk ((by rw [hg]; exact (below_size bel_) : w.heap.size ≤ gb109)); have n5_ := Aside0.mk ((by rw [hg]; exact Nat.ne_of_lt (blk_lt BK101.out) : gb101 ≠ gb109)); have n6_ := Aside0.mk ((by rw [hg]; exact Nat.ne_of_gt (blk_lt BK101.out) : gb109 ≠ gb101)); clear BK101; clear HB; have BK101 := n0_; have HB := n1_; have BK109 := n2_; have GW109 := n3_; have GE109 := n4_; have NB101_109 := n5_; have NB109_101 := n6_; clear n0_ n1_ n2_ n3_ n4_ n5_ n6_; clear hb hbox hg; have hnb47 := NB109_101.out; have hnc47 := NB101_109.out; have hcz48_0 := bc_ BK109.out 0 rfl; have hcz48_1 := bc_ BK109.out 1 rfl; have hcz48_2 := bc_ BK109.out 2 rfl; have hfz48_0 := blk_frozen BK109.out 0; have hfz48_1 := blk_frozen BK109.out 1; have hfz48_2 := blk_frozen BK109.out 2; have hcz49_0 := bc_ BK101.out 0 rfl; have hcz49_1 := bc_ BK101.out 1 rfl; have hcz49_2 := bc_ BK101.out 2 rfl; have hcz49_3 := bc_ BK101.out 3 rfl; have hfz49_0 := blk_frozen BK101.out 0; have hfz49_1 := blk_frozen BK101.out 1; have hfz49_2 := blk_frozen BK101.out 2; have hfz49_3 := blk_frozen BK101.out 3))
              go_roundg k2
              case measure => have := HK1.out; have := HK2.out; omega
              case rel => exact ⟨(wrap64 (x74_2 + 1)), eq_, H', ⟨by have := HK1.out; have := HK2.out; omega⟩, ⟨blk_far (blk_far (blk_far BK101.out NB101_109.out _) NB101_109.out _) NB101_109.out _⟩, ⟨bel_⟩⟩
            ·rw [if_neg c40] at H
             exact absurd H (by simp)
           ·rw [if_neg c39] at H
            exact absurd H (by simp)
          ·rw [if_neg c38] at H
           have c38b0 := decide_eq_false c38
           clear c38
           simp only [Option.some.injEq, Prod.mk.injEq] at H
           obtain ⟨rfl, rfl, rfl⟩ := H
           go_wp2
           go_ret3
           exact ⟨eq_, bel_⟩
       ·rw [if_neg c34] at H
        have c34b0 := beq_eq_false_iff_ne.mpr c34
        have c34b1 := bne_iff_ne.mpr c34
        simp only [Option.some.injEq, Prod.mk.injEq] at H
        obtain ⟨rfl, rfl, rfl⟩ := H
        have hcz50_0 := bc_ BK101.out 0 rfl
        have hcz50_1 := bc_ BK101.out 1 rfl
        have hcz50_2 := bc_ BK101.out 2 rfl
        have hcz50_3 := bc_ BK101.out 3 rfl
        have hfz50_0 := blk_frozen BK101.out 0
        have hfz50_1 := blk_frozen BK101.out 1
        have hfz50_2 := blk_frozen BK101.out 2
        have hfz50_3 := blk_frozen BK101.out 3
        go_wp2_with (first | (go_at_call 91; (with_reducible refine (epicycleref04_Check.calls k1 _ _ l0_3 t106 t107 _ ?side1 ?side2 A33.out).mono ?_); (case side1 => exact cal_ (Kd.C_below HR0_3.out HB.out)); (case side2 => exact HC0_3.out); rintro e w51 ⟨rfl, hb⟩; have n0_ := Aside0.mk (blk_below BK101.out hb); have n1_ := Aside0.mk (below_step bel_ hb); clear BK101; clear HB; have BK101 := n0_; have HB := n1_; clear n0_ n1_))
        go_ret3
        exact ⟨eq_, bel_⟩
end Go.Proofs.YtndkmnjbjlfeaaaGreat.XO
end
section
namespace Go.Proofs.YtndkmnjbjlfeaaaGreat.F06
open Go Go.RowKit Go.Proofs.YtndkmnjbjlfeaaaGreatW.PrintWords Go.Proofs.YtndkmnjbjlfeaaaGreatW.PrintLast Go.Proofs.YtndkmnjbjlfeaaaGreatW.PrintMore Go.Proofs.YtndkmnjbjlfeaaaGreat.Given Go.Proofs.YtndkmnjbjlfeaaaGreat.XS Go.Proofs.YtndkmnjbjlfeaaaGreat.XT
set_option linter.unusedSimpArgs false
def cellsP (x : S147) : List Value := [.int .u64 x.f0, .int .i64 x.f1]
def cellsE (x : S94 × Nat) : List Value := [.int .u64 x.1.f0, .int .u64 x.1.f1, .slice (some ⟨x.2, 0, none⟩) x.1.f2.length x.1.f2.length]
theorem flat_at {α : Type} {c : α → List Value} {n : Nat} (hc : ∀ x, (c x).length = n) : ∀ (l : List α) (j : Nat) (x : α), l[j]? = some x → ((l.flatMap c).drop (j * n)).take n = c x := by
  intro l
  induction l with
  | nil => intro j x h; simp at h
  | cons y t ih =>
    intro j x h
    rw [List.flatMap_cons]
    cases j with
    | zero =>
      simp at h
      subst h
      rw [Nat.zero_mul, List.drop_zero, List.take_append_of_le_length (by rw [hc]; exact Nat.le_refl _), List.take_of_length_le (by rw [hc]; exact Nat.le_refl _)]
    | succ j =>
      have e : (j + 1) * n = (c y).length + j * n := by rw [hc, Nat.add_mul, Nat.one_mul, Nat.add_comm]
      rw [e, List.drop_append]
      rw [show ((c y).drop ((c y).length + j * n)) = [] from List.drop_eq_nil_of_le (by omega), List.nil_append, show (c y).length + j * n - (c y).length = j * n by omega]
      exact ih j x (by simpa using h)
theorem flat_length {α : Type} {c : α → List Value} {n : Nat} (hc : ∀ x, (c x).length = n) (l : List α) : (l.flatMap c).length = l.length * n := by
  induction l with
  | nil => simp
  | cons y t ih => rw [List.flatMap_cons, List.length_append, ih, hc, List.length_cons, Nat.add_mul, Nat.one_mul, Nat.add_comm]
theorem powers_R {W : World} {base b : Nat} {ok : Nat → Prop} {l : List S147} (hb : base ≤ b) (ho : ok b) (hl : l.length ≤ 1000) (hh : W.heap[b]? = some (.cells (l.flatMap cellsP).toArray 147 (0, 0))) :
    Kd.R k147 147 W base ok (.slice (some ⟨b, 0, none⟩) l.length l.length) l := by
  have hn : (l.flatMap cellsP).length = l.length * 2 := flat_length (c := cellsP) (n := 2) (fun _ => rfl) l
  refine ⟨fun k e => by simp [Value.ownBlock] at e; subst e; exact ho, l.flatMap cellsP, ⟨hn, .inr ⟨b, l.length, _, rfl, hb, hh, Nat.le_refl _, by unfold maxLen; omega, by rw [List.size_toArray, hn]; rfl, by exact List.take_of_length_le (by rw [hn]; exact Nat.le_refl _)⟩⟩, hn, fun j p hj => ?_⟩
  have e : ((l.flatMap cellsP).drop (j * 2)).take 2 = cellsP p := flat_at (c := cellsP) (n := 2) (fun _ => rfl) l j p hj
  show (k147).M W base _ p (((l.flatMap cellsP).drop (j * 2)).take 2)
  rw [e]
  exact k147_mkM _ _ _ p
theorem entries_S {W : World} {base g n : Nat} {es : List (S94 × Nat)} (hb : base ≤ g) (hg : W.heap[g]? = some (.cells (es.flatMap cellsE).toArray 94 (0, 0))) (hn : n = es.length) (hl : es.length ≤ 1000)
    (hx : ∀ x ∈ es, base ≤ x.2 ∧ x.2 ≠ g ∧ x.1.f2.length ≤ 1000 ∧ W.heap[x.2]? = some (.cells (x.1.f2.flatMap cellsP).toArray 147 (0, 0))) (hd : (es.map (·.2)).Nodup) :
    Kd.S k94 94 W base (fun _ => True) (.slice (some ⟨g, 0, none⟩) n n) (es.map (·.1)) := by
  subst hn
  have hk : (es.flatMap cellsE).length = es.length * 3 := flat_length (c := cellsE) (n := 3) (fun _ => rfl) es
  obtain ⟨f, hr⟩ := Kd.reps_tag (d := k94) (w := W) (base := base) (ok := fun k => True ∧ some k ≠ (Value.slice (some ⟨g, 0, none⟩) es.length es.length).ownBlock) (xs := es.map (·.1)) (inner := es.flatMap cellsE) (fun j k => ∃ x, es[j]? = some x ∧ k = x.2)
    (fun i j k ⟨x, hx1, hx2⟩ ⟨y, hy1, hy2⟩ => by
      have h1 : (es.map (·.2))[i]? = some k := by rw [List.getElem?_map, hx1, hx2]; rfl
      have h2 : (es.map (·.2))[j]? = some k := by rw [List.getElem?_map, hy1, hy2]; rfl
      have hi : i < (es.map (·.2)).length := (List.getElem?_eq_some_iff.1 h1).1
      exact (List.getElem?_inj hi hd).1 (h1.trans h2.symm))
    (fun j k ⟨x, hx1, hx2⟩ => ⟨trivial, fun e => by
      simp [Value.ownBlock] at e
      exact (hx x (List.mem_of_getElem? hx1)).2.1 (hx2.symm.trans e)⟩)
    (by rw [hk, List.length_map]; rfl)
    (fun j e he => by
      rw [List.getElem?_map] at he
      obtain ⟨x, hx1, rfl⟩ := Option.map_eq_some_iff.1 he
      obtain ⟨h1, h2, h3, h4⟩ := hx x (List.mem_of_getElem? hx1)
      have e : ((es.flatMap cellsE).drop (j * 3)).take 3 = cellsE x := flat_at (c := cellsE) (n := 3) (fun _ => rfl) es j x hx1
      show (k94).M W base _ x.1 (((es.flatMap cellsE).drop (j * 3)).take 3)
      rw [e]
      exact k94_mkM _ _ _ x.1 (powers_R h1 ⟨x, hx1, rfl⟩ h3 h4))
  refine ⟨f, fun k e => trivial, es.flatMap cellsE, ?_, ?_⟩
  · rw [List.length_zipIdx, List.length_map]
    exact ⟨hk, .inr ⟨g, es.length, _, rfl, hb, hg, Nat.le_refl _, by unfold maxLen; omega, by rw [List.size_toArray, hk]; rfl, by exact List.take_of_length_le (by rw [hk]; exact Nat.le_refl _)⟩⟩
  · exact hr
theorem alloc_sz (w : World) (o : Obj) : (w.alloc o).heap.size = w.heap.size + 1 := Array.size_push _
theorem alloc_new' {w : World} {o : Obj} {k : Nat} (h : k = w.heap.size) : (w.alloc o).heap[k]? = some o := by subst h; exact blk_new w o
theorem alloc_old' {w : World} {o : Obj} {k : Nat} {r : Option Obj} (h : k < w.heap.size) (hr : w.heap[k]? = r) : (w.alloc o).heap[k]? = r := by
  show (w.heap.push o)[k]? = _
  rw [Array.getElem?_push, if_neg (by omega)]
  exact hr
theorem drewN_heap (w : World) (n : Nat) : (w.drewN n).heap = w.heap := rfl
def e3 : S94 := ⟨3, 2, [⟨2, 1⟩]⟩
def e5 : S94 := ⟨5, 2, [⟨2, 2⟩]⟩
def e7 : S94 := ⟨7, 3, [⟨2, 1⟩, ⟨3, 1⟩]⟩
def known0 : List S94 := [e3, e7, ⟨29, 2, [⟨2, 2⟩, ⟨7, 1⟩]⟩, ⟨4179340454199820289, 3, [⟨2, 57⟩, ⟨29, 1⟩]⟩]
def known1 : List S94 := [e3, ⟨1945555039024054273, 5, [⟨2, 56⟩, ⟨3, 3⟩]⟩]
def known2 : List S94 := [e5, ⟨180143985094819841, 6, [⟨2, 55⟩, ⟨5, 1⟩]⟩]
def known3 : List S94 := [e3, e5, ⟨754974721, 11, [⟨2, 24⟩, ⟨3, 2⟩, ⟨5, 1⟩]⟩]
def known4 : List S94 := [e3, e7, ⟨469762049, 3, [⟨2, 26⟩, ⟨7, 1⟩]⟩]
def known5 : List S94 := [e5, ⟨167772161, 3, [⟨2, 25⟩, ⟨5, 1⟩]⟩]
def field_known.f (i : Int) : Option (List S94 × Int) := some (
  if i = 0 then (known0, 4179340454199820289) else if i = 1 then (known1, 1945555039024054273) else if i = 2 then (known2, 180143985094819841) else if i = 3 then (known3, 754974721) else if i = 4 then (known4, 469762049) else if i = 5 then (known5, 167772161) else ([], 0))
def KnownAt (i : Int) (l : List S94) (p : Int) : Prop := ∀ w : World, Calls Tryz.prog 92 #[.int .i64 i] w fun e w' => ∃ v0_ : Value, e = .returned (.tuple #[v0_, .int .u64 p]) ∧ Kd.S k94 94 w' w.heap.size (fun _ => True) v0_ l ∧ Below w.heap.size w w'
set_option maxHeartbeats 2000000 in
set_option maxRecDepth 10000 in
theorem known_0 : KnownAt 0 known0 4179340454199820289 := by
  intro w
  go_enter Tryz.func92, Tryz.ntmps92
  go_wp2
  go_quiet (fail)
  go_wp2
  go_ret2
  refine ⟨.slice (some ⟨w.heap.size + 1 + 1 + 1 + 1 + 1 + 1 + 1 + 1, 0, none⟩) 4 4, rfl, ?_, by repeat (first | exact Below.refl _ _ | apply below_alloc | apply pw_below_drewN)⟩
  refine entries_S (es := [(e3, w.heap.size), (e7, w.heap.size + 1 + 1 + 1 + 1), (⟨29, 2, [⟨2, 2⟩, ⟨7, 1⟩]⟩, w.heap.size + 1 + 1 + 1 + 1 + 1 + 1), (⟨4179340454199820289, 3, [⟨2, 57⟩, ⟨29, 1⟩]⟩, w.heap.size + 1 + 1 + 1 + 1 + 1 + 1 + 1)]) (by omega) (by (try rw [drewN_heap]); repeat (first | exact (alloc_new' (by simp only [alloc_sz])).trans rfl | refine alloc_old' (by simp only [alloc_sz]; omega) ?_)) rfl (by simp) ?_ ?_
  · intro x hx
    simp only [List.mem_cons, List.not_mem_nil, or_false] at hx
    rcases hx with rfl | rfl | rfl | rfl
    all_goals exact ⟨by dsimp only; omega, by dsimp only; omega, by simp [e3, e5, e7], by (try rw [drewN_heap]); repeat (first | exact (alloc_new' (by simp only [alloc_sz])).trans rfl | refine alloc_old' (by simp only [alloc_sz]; omega) ?_)⟩
  · simp only [List.map_cons, List.map_nil, List.nodup_cons, List.mem_cons, List.not_mem_nil, or_false, not_or]; (repeat' constructor) <;> first | omega | simp
set_option maxHeartbeats 2000000 in
set_option maxRecDepth 10000 in
theorem known_1 : KnownAt 1 known1 1945555039024054273 := by
  intro w
  go_enter Tryz.func92, Tryz.ntmps92
  go_wp2
  go_quiet (fail)
  go_wp2
  go_ret2
  refine ⟨.slice (some ⟨w.heap.size + 1 + 1 + 1 + 1 + 1 + 1 + 1, 0, none⟩) 2 2, rfl, ?_, by repeat (first | exact Below.refl _ _ | apply below_alloc | apply pw_below_drewN)⟩
  refine entries_S (es := [(e3, w.heap.size), (⟨1945555039024054273, 5, [⟨2, 56⟩, ⟨3, 3⟩]⟩, w.heap.size + 1 + 1 + 1 + 1 + 1 + 1)]) (by omega) (by (try rw [drewN_heap]); repeat (first | exact (alloc_new' (by simp only [alloc_sz])).trans rfl | refine alloc_old' (by simp only [alloc_sz]; omega) ?_)) rfl (by simp) ?_ ?_
  · intro x hx
    simp only [List.mem_cons, List.not_mem_nil, or_false] at hx
    rcases hx with rfl | rfl
    all_goals exact ⟨by dsimp only; omega, by dsimp only; omega, by simp [e3, e5, e7], by (try rw [drewN_heap]); repeat (first | exact (alloc_new' (by simp only [alloc_sz])).trans rfl | refine alloc_old' (by simp only [alloc_sz]; omega) ?_)⟩
  · simp only [List.map_cons, List.map_nil, List.nodup_cons, List.mem_cons, List.not_mem_nil, or_false, not_or]; (repeat' constructor) <;> first | omega | simp
set_option maxHeartbeats 2000000 in
set_option maxRecDepth 10000 in
theorem known_2 : KnownAt 2 known2 180143985094819841 := by
  intro w
  go_enter Tryz.func92, Tryz.ntmps92
  go_wp2
  go_quiet (fail)
  go_wp2
  go_ret2
  refine ⟨.slice (some ⟨w.heap.size + 1 + 1 + 1 + 1 + 1 + 1 + 1, 0, none⟩) 2 2, rfl, ?_, by repeat (first | exact Below.refl _ _ | apply below_alloc | apply pw_below_drewN)⟩
  refine entries_S (es := [(e5, w.heap.size + 1 + 1), (⟨180143985094819841, 6, [⟨2, 55⟩, ⟨5, 1⟩]⟩, w.heap.size + 1 + 1 + 1 + 1 + 1 + 1)]) (by omega) (by (try rw [drewN_heap]); repeat (first | exact (alloc_new' (by simp only [alloc_sz])).trans rfl | refine alloc_old' (by simp only [alloc_sz]; omega) ?_)) rfl (by simp) ?_ ?_
  · intro x hx
    simp only [List.mem_cons, List.not_mem_nil, or_false] at hx
    rcases hx with rfl | rfl
    all_goals exact ⟨by dsimp only; omega, by dsimp only; omega, by simp [e3, e5, e7], by (try rw [drewN_heap]); repeat (first | exact (alloc_new' (by simp only [alloc_sz])).trans rfl | refine alloc_old' (by simp only [alloc_sz]; omega) ?_)⟩
  · simp only [List.map_cons, List.map_nil, List.nodup_cons, List.mem_cons, List.not_mem_nil, or_false, not_or]; (repeat' constructor) <;> first | omega | simp
set_option maxHeartbeats 2000000 in
set_option maxRecDepth 10000 in
theorem known_3 : KnownAt 3 known3 754974721 := by
  intro w
  go_enter Tryz.func92, Tryz.ntmps92
  go_wp2
  go_quiet (fail)
  go_wp2
  go_ret2
  refine ⟨.slice (some ⟨w.heap.size + 1 + 1 + 1 + 1 + 1 + 1 + 1, 0, none⟩) 3 3, rfl, ?_, by repeat (first | exact Below.refl _ _ | apply below_alloc | apply pw_below_drewN)⟩
  refine entries_S (es := [(e3, w.heap.size), (e5, w.heap.size + 1 + 1), (⟨754974721, 11, [⟨2, 24⟩, ⟨3, 2⟩, ⟨5, 1⟩]⟩, w.heap.size + 1 + 1 + 1 + 1 + 1 + 1)]) (by omega) (by (try rw [drewN_heap]); repeat (first | exact (alloc_new' (by simp only [alloc_sz])).trans rfl | refine alloc_old' (by simp only [alloc_sz]; omega) ?_)) rfl (by simp) ?_ ?_
  · intro x hx
    simp only [List.mem_cons, List.not_mem_nil, or_false] at hx
    rcases hx with rfl | rfl | rfl
    all_goals exact ⟨by dsimp only; omega, by dsimp only; omega, by simp [e3, e5, e7], by (try rw [drewN_heap]); repeat (first | exact (alloc_new' (by simp only [alloc_sz])).trans rfl | refine alloc_old' (by simp only [alloc_sz]; omega) ?_)⟩
  · simp only [List.map_cons, List.map_nil, List.nodup_cons, List.mem_cons, List.not_mem_nil, or_false, not_or]; (repeat' constructor) <;> first | omega | simp
set_option maxHeartbeats 2000000 in
set_option maxRecDepth 10000 in
theorem known_4 : KnownAt 4 known4 469762049 := by
  intro w
  go_enter Tryz.func92, Tryz.ntmps92
  go_wp2
  go_quiet (fail)
  go_wp2
  go_ret2
  refine ⟨.slice (some ⟨w.heap.size + 1 + 1 + 1 + 1 + 1 + 1 + 1, 0, none⟩) 3 3, rfl, ?_, by repeat (first | exact Below.refl _ _ | apply below_alloc | apply pw_below_drewN)⟩
  refine entries_S (es := [(e3, w.heap.size), (e7, w.heap.size + 1 + 1 + 1 + 1), (⟨469762049, 3, [⟨2, 26⟩, ⟨7, 1⟩]⟩, w.heap.size + 1 + 1 + 1 + 1 + 1 + 1)]) (by omega) (by (try rw [drewN_heap]); repeat (first | exact (alloc_new' (by simp only [alloc_sz])).trans rfl | refine alloc_old' (by simp only [alloc_sz]; omega) ?_)) rfl (by simp) ?_ ?_
  · intro x hx
    simp only [List.mem_cons, List.not_mem_nil, or_false] at hx
    rcases hx with rfl | rfl | rfl
    all_goals exact ⟨by dsimp only; omega, by dsimp only; omega, by simp [e3, e5, e7], by (try rw [drewN_heap]); repeat (first | exact (alloc_new' (by simp only [alloc_sz])).trans rfl | refine alloc_old' (by simp only [alloc_sz]; omega) ?_)⟩
  · simp only [List.map_cons, List.map_nil, List.nodup_cons, List.mem_cons, List.not_mem_nil, or_false, not_or]; (repeat' constructor) <;> first | omega | simp
set_option maxHeartbeats 2000000 in
set_option maxRecDepth 10000 in
theorem known_5 : KnownAt 5 known5 167772161 := by
  intro w
  go_enter Tryz.func92, Tryz.ntmps92
  go_wp2
  go_quiet (fail)
  go_wp2
  go_ret2
  refine ⟨.slice (some ⟨w.heap.size + 1 + 1 + 1 + 1 + 1 + 1 + 1, 0, none⟩) 2 2, rfl, ?_, by repeat (first | exact Below.refl _ _ | apply below_alloc | apply pw_below_drewN)⟩
  refine entries_S (es := [(e5, w.heap.size + 1 + 1), (⟨167772161, 3, [⟨2, 25⟩, ⟨5, 1⟩]⟩, w.heap.size + 1 + 1 + 1 + 1 + 1 + 1)]) (by omega) (by (try rw [drewN_heap]); repeat (first | exact (alloc_new' (by simp only [alloc_sz])).trans rfl | refine alloc_old' (by simp only [alloc_sz]; omega) ?_)) rfl (by simp) ?_ ?_
  · intro x hx
    simp only [List.mem_cons, List.not_mem_nil, or_false] at hx
    rcases hx with rfl | rfl
    all_goals exact ⟨by dsimp only; omega, by dsimp only; omega, by simp [e3, e5, e7], by (try rw [drewN_heap]); repeat (first | exact (alloc_new' (by simp only [alloc_sz])).trans rfl | refine alloc_old' (by simp only [alloc_sz]; omega) ?_)⟩
  · simp only [List.map_cons, List.map_nil, List.nodup_cons, List.mem_cons, List.not_mem_nil, or_false, not_or]; (repeat' constructor) <;> first | omega | simp
set_option maxHeartbeats 1000000 in
theorem known_none {i : Int} (h : ¬ (i = 0 ∨ i = 1 ∨ i = 2 ∨ i = 3 ∨ i = 4 ∨ i = 5)) : KnownAt i [] 0 := by
  intro w
  have b0 : (i == 0) = false := beq_eq_false_iff_ne.mpr (by omega)
  have b1 : (i == 1) = false := beq_eq_false_iff_ne.mpr (by omega)
  have b2 : (i == 2) = false := beq_eq_false_iff_ne.mpr (by omega)
  have b3 : (i == 3) = false := beq_eq_false_iff_ne.mpr (by omega)
  have b4 : (i == 4) = false := beq_eq_false_iff_ne.mpr (by omega)
  have b5 : (i == 5) = false := beq_eq_false_iff_ne.mpr (by omega)
  clear h
  go_enter Tryz.func92, Tryz.ntmps92
  go_wp2
  go_ret2
  exact ⟨_, rfl, Kd.S_nil _ _ _ _ _, by repeat (first | exact Below.refl _ _ | apply below_alloc | apply pw_below_drewN)⟩
theorem field_known.calls (a0 : Int) (r1 : List S94) (r2 : Int) (w : World) (h : field_known.f a0 = some (r1, r2)) :
    Calls Tryz.prog 92 #[.int .i64 a0] w fun e w' => ∃ v0_ : Value, e = .returned (.tuple #[v0_, .int .u64 r2]) ∧ Kd.S k94 94 w' w.heap.size (fun _ => True) v0_ r1 ∧ Below w.heap.size w w' := by
  have h := Option.some.inj h
  by_cases h0 : a0 = 0
  · subst h0; obtain ⟨rfl, rfl⟩ := Prod.mk.inj h; exact known_0 w
  by_cases h1 : a0 = 1
  · subst h1; obtain ⟨rfl, rfl⟩ := Prod.mk.inj h; exact known_1 w
  by_cases h2 : a0 = 2
  · subst h2; obtain ⟨rfl, rfl⟩ := Prod.mk.inj h; exact known_2 w
  by_cases h3 : a0 = 3
  · subst h3; obtain ⟨rfl, rfl⟩ := Prod.mk.inj h; exact known_3 w
  by_cases h4 : a0 = 4
  · subst h4; obtain ⟨rfl, rfl⟩ := Prod.mk.inj h; exact known_4 w
  by_cases h5 : a0 = 5
  · subst h5; obtain ⟨rfl, rfl⟩ := Prod.mk.inj h; exact known_5 w
  rw [if_neg h0, if_neg h1, if_neg h2, if_neg h3, if_neg h4, if_neg h5] at h
  obtain ⟨rfl, rfl⟩ := Prod.mk.inj h
  exact known_none (by omega) w
end Go.Proofs.YtndkmnjbjlfeaaaGreat.F06
end
section
namespace Go.Proofs.YtndkmnjbjlfeaaaGreat.XS
open Go Go.RowKit Go.Proofs.YtndkmnjbjlfeaaaGreatW.PrintWords Go.Proofs.YtndkmnjbjlfeaaaGreatW.PrintLast Go.Proofs.YtndkmnjbjlfeaaaGreatW.PrintMore Go.Proofs.YtndkmnjbjlfeaaaGreat.Given Go.Proofs.YtndkmnjbjlfeaaaGreat.M
section digit
variable {Y h l u d q r : Int}
theorem digit_le (hY : Y = h * 4294967296 + l) (hl : 0 ≤ l) (hh : 2147483648 ≤ h) (he : q * h + r = u) (hc : q * l ≤ 4294967296 * r + d) : q ≤ (u * 4294967296 + d) / Y := by
  have e : q * Y = q * h * 4294967296 + q * l := by rw [hY, Int.mul_add, ← Int.mul_assoc]
  have hp : 0 < Y := by omega
  refine Int.le_ediv_of_mul_le hp ?_
  omega
theorem digit_lt (hY : Y = h * 4294967296 + l) (hl : 0 ≤ l) (hh : 2147483648 ≤ h) (he : q * h + r = u) (hc : 4294967296 * r + d < q * l) : (u * 4294967296 + d) / Y < q := by
  have e : q * Y = q * h * 4294967296 + q * l := by rw [hY, Int.mul_add, ← Int.mul_assoc]
  have hp : 0 < Y := by omega
  refine Int.ediv_lt_of_lt_mul hp ?_
  omega
theorem digit_top (hp : 0 < Y) (hu : u < Y) (hd : d < 4294967296) : (u * 4294967296 + d) / Y < 4294967296 := by
  refine Int.ediv_lt_of_lt_mul hp ?_
  omega
end digit
theorem mul_le_of {a b A B : Int} (ha : 0 ≤ a) (hb : 0 ≤ b) (hA : a ≤ A) (hB : b ≤ B) : a * b ≤ A * B :=
  Int.mul_le_mul hA hB hb (by omega)
section
variable {Y s h l u d e : Int}
theorem div_l0 {R : Int × Int} (hY : Y = h * 4294967296 + l) (hl : 0 ≤ l) (hl2 : l < 4294967296) (hh : 2147483648 ≤ h) (hh2 : h < 4294967296) (hu0 : 0 ≤ u) (hu : u < Y) (hd0 : 0 ≤ d) (hd : d < 4294967296)
    (hR : Ev (fun k => bits_Div64.j2 k Y s h l u d e ((u * 4294967296 + d) / Y)) R) (n : Nat) :
    ∀ q r : Int, q * h + r = u → 0 ≤ r → r < 4294967296 → (u * 4294967296 + d) / Y ≤ q → q ≤ 4294967297 → q - (u * 4294967296 + d) / Y = n →
    Ev (fun k => bits_Div64.l0 k Y s h l u d e q r) R := by
  have hp : 0 < Y := by omega
  have htop := digit_top hp hu hd
  have hq0 : 0 ≤ (u * 4294967296 + d) / Y := Int.ediv_nonneg (by omega) (by omega)
  generalize hQ : (u * 4294967296 + d) / Y = Q at *
  have step : ∀ q r : Int, q * h + r = u → 0 ≤ r → r < 4294967296 → Q < q → q ≤ 4294967297 → (Q < q - 1 → Ev (fun k => bits_Div64.l0 k Y s h l u d e (q - 1) (r + h)) R) →
      (r + h < 4294967296 → Q = q - 1 → Ev (fun k => bits_Div64.l0 k Y s h l u d e (q - 1) (r + h)) R) →
      Ev (fun k => bits_Div64.j1 k Y s h l u d e q r true) R := by
    intro q r he hr0 hr hlt hq hnext hnext2
    by_cases hb : r + h < 4294967296
    · have hE : Ev (fun k => bits_Div64.l0 k Y s h l u d e (q - 1) (r + h)) R := by
        by_cases hx : Q < q - 1
        · exact hnext hx
        · exact hnext2 hb (by omega)
      refine Ev.step (fun k => ?_) hE
      simp only [bits_Div64.j1, if_true]
      rw [wu64_id (r + h) (by omega) (by omega), if_neg (by omega), wu64_id (q - 1) (by omega) (by omega)]
    · have hle : q - 1 ≤ Q := by
        rw [← hQ]
        refine digit_le (r := r + h) hY hl hh ?_ ?_
        · rw [Int.sub_mul]; omega
        · have := mul_le_of (a := q - 1) (b := l) (A := 4294967296) (B := 4294967295) (by omega) hl (by omega) (by omega)
          omega
      have hQe : Q = q - 1 := by omega
      refine Ev.step (fun k => ?_) hR
      simp only [bits_Div64.j1, if_true]
      rw [wu64_id (r + h) (by omega) (by omega), if_pos (by omega), wu64_id (q - 1) (by omega) (by omega), hQe]
  induction n with
  | zero =>
    intro q r he hr0 hr hQq hq hn
    obtain rfl : Q = q := by omega
    have hnc : ¬ (4294967296 * r + d < Q * l) := by
      intro hc
      have := digit_lt hY hl hh he hc
      omega
    have hm := mul_le_of (a := Q) (b := l) (A := 4294967297) (B := 4294967295) (by omega) hl (by omega) (by omega)
    have hm0 : 0 ≤ Q * l := Int.mul_nonneg hq0 hl
    refine Ev.step (f := fun k => bits_Div64.j1 k Y s h l u d e Q r false) (fun k => ?_) (Ev.step (fun k => ?_) hR)
    · simp only [bits_Div64.l0]
      rw [if_neg (by omega), wu64_id (Q * l) hm0 (by omega), wu64_id (4294967296 * r) (by omega) (by omega), wu64_id (4294967296 * r + d) (by omega) (by omega), decide_eq_false (by omega)]
    · simp only [bits_Div64.j1]
      rw [if_neg (by simp)]
  | succ n ih =>
    intro q r he hr0 hr hQq hq hn
    have hlt : Q < q := by omega
    have hc : 4294967296 ≤ q ∨ 4294967296 * r + d < q * l := by
      by_cases h1 : 4294967296 ≤ q
      · exact .inl h1
      · right
        refine Classical.byContradiction fun h2 => ?_
        have := digit_le (q := q) (r := r) hY hl hh he (Int.not_lt.1 h2)
        omega
    have hj := step q r he hr0 hr hlt hq (fun hx => by
        by_cases hb : r + h < 4294967296
        · exact ih (q - 1) (r + h) (by rw [Int.sub_mul]; omega) (by omega) hb (by omega) (by omega) (by omega)
        · exfalso
          have hle : q - 1 ≤ Q := by
            rw [← hQ]
            refine digit_le (r := r + h) hY hl hh ?_ ?_
            · rw [Int.sub_mul]; omega
            · have := mul_le_of (a := q - 1) (b := l) (A := 4294967296) (B := 4294967295) (by omega) hl (by omega) (by omega)
              omega
          omega)
      (fun hb hx => ih (q - 1) (r + h) (by rw [Int.sub_mul]; omega) (by omega) hb (by omega) (by omega) (by omega))
    have hm := mul_le_of (a := q) (b := l) (A := 4294967297) (B := 4294967295) (by omega) hl (by omega) (by omega)
    have hm0 : 0 ≤ q * l := Int.mul_nonneg (by omega) hl
    refine Ev.step (fun k => ?_) hj
    simp only [bits_Div64.l0]
    by_cases h1 : 4294967296 ≤ q
    · rw [if_pos (by omega)]
    · rw [if_neg (by omega), wu64_id (q * l) hm0 (by omega), wu64_id (4294967296 * r) (by omega) (by omega), wu64_id (4294967296 * r + d) (by omega) (by omega), decide_eq_true (by omega)]
theorem div_l1 {q1 : Int} (hY : Y = h * 4294967296 + l) (hl : 0 ≤ l) (hl2 : l < 4294967296) (hh : 2147483648 ≤ h) (hh2 : h < 4294967296) (hu0 : 0 ≤ u) (hu : u < Y) (hd0 : 0 ≤ d) (hd : d < 4294967296) (hs : 0 ≤ s) (hq1 : 0 ≤ q1) (hq1' : q1 < 4294967296) (n : Nat) :
    ∀ q r : Int, q * h + r = u → 0 ≤ r → r < 4294967296 → (u * 4294967296 + d) / Y ≤ q → q ≤ 4294967297 → q - (u * 4294967296 + d) / Y = n →
    Ev (fun k => bits_Div64.l1 k Y s h l d q1 r u q) (q1 * 4294967296 + (u * 4294967296 + d) / Y, shr .u64 ((u * 4294967296 + d) % Y) s) := by
  have hp : 0 < Y := by omega
  have htop := digit_top hp hu hd
  have hq0 : 0 ≤ (u * 4294967296 + d) / Y := Int.ediv_nonneg (by omega) (by omega)
  have hmod : (u * 4294967296 + d) - (u * 4294967296 + d) / Y * Y = (u * 4294967296 + d) % Y := by
    have := Int.mul_ediv_add_emod (u * 4294967296 + d) Y
    rw [Int.mul_comm] at this
    omega
  have hm1 := Int.emod_lt_of_pos (u * 4294967296 + d) hp
  have hm0 := Int.emod_nonneg (u * 4294967296 + d) (by omega : Y ≠ 0)
  have hrest : IntKind.u64.wrap (IntKind.u64.wrap (IntKind.u64.wrap (u * 4294967296) + d) - IntKind.u64.wrap ((u * 4294967296 + d) / Y * Y)) = (u * 4294967296 + d) % Y := by
    simp only [wu64]
    omega
  generalize hQ : (u * 4294967296 + d) / Y = Q at *
  have step : ∀ q r : Int, q * h + r = u → 0 ≤ r → r < 4294967296 → Q < q → q ≤ 4294967297 →
      (r + h < 4294967296 → Ev (fun k => bits_Div64.l1 k Y s h l d q1 (r + h) u (q - 1)) (q1 * 4294967296 + Q, shr .u64 ((u * 4294967296 + d) % Y) s)) →
      Ev (fun k => bits_Div64.j4 k Y s h l d q1 r u q true) (q1 * 4294967296 + Q, shr .u64 ((u * 4294967296 + d) % Y) s) := by
    intro q r he hr0 hr hlt hq hnext
    by_cases hb : r + h < 4294967296
    · refine Ev.step (fun k => ?_) (hnext hb)
      simp only [bits_Div64.j4, if_true]
      rw [wu64_id (r + h) (by omega) (by omega), if_neg (by omega), wu64_id (q - 1) (by omega) (by omega)]
    · have hle : q - 1 ≤ Q := by
        rw [← hQ]
        refine digit_le (r := r + h) hY hl hh ?_ ?_
        · rw [Int.sub_mul]; omega
        · have := mul_le_of (a := q - 1) (b := l) (A := 4294967296) (B := 4294967295) (by omega) hl (by omega) (by omega)
          omega
      have hQe : q - 1 = Q := by omega
      refine Ev.step (fun k => ?_) (Ev.now _)
      simp only [bits_Div64.j4, if_true]
      rw [wu64_id (r + h) (by omega) (by omega), if_pos (by omega), if_pos hs, wu64_id (q - 1) (by omega) (by omega), hQe, hrest, wu64_id (q1 * 4294967296) (by omega) (by omega), wu64_id (q1 * 4294967296 + Q) (by omega) (by omega)]
  induction n with
  | zero =>
    intro q r he hr0 hr hQq hq hn
    obtain rfl : Q = q := by omega
    have hnc : ¬ (4294967296 * r + d < Q * l) := by
      intro hc
      have := digit_lt hY hl hh he hc
      omega
    have hm := mul_le_of (a := Q) (b := l) (A := 4294967297) (B := 4294967295) (by omega) hl (by omega) (by omega)
    have hmm : 0 ≤ Q * l := Int.mul_nonneg hq0 hl
    refine Ev.step (f := fun k => bits_Div64.j4 k Y s h l d q1 r u Q false) (fun k => ?_) (Ev.step (fun k => ?_) (Ev.now _))
    · simp only [bits_Div64.l1]
      rw [if_neg (by omega), wu64_id (Q * l) hmm (by omega), wu64_id (4294967296 * r) (by omega) (by omega), wu64_id (4294967296 * r + d) (by omega) (by omega), decide_eq_false (by omega)]
    · simp only [bits_Div64.j4]
      rw [if_neg (by simp), if_pos hs, hrest, wu64_id (q1 * 4294967296) (by omega) (by omega), wu64_id (q1 * 4294967296 + Q) (by omega) (by omega)]
  | succ n ih =>
    intro q r he hr0 hr hQq hq hn
    have hlt : Q < q := by omega
    have hc : 4294967296 ≤ q ∨ 4294967296 * r + d < q * l := by
      by_cases h1 : 4294967296 ≤ q
      · exact .inl h1
      · right
        refine Classical.byContradiction fun h2 => ?_
        have := digit_le (q := q) (r := r) hY hl hh he (Int.not_lt.1 h2)
        omega
    have hj := step q r he hr0 hr hlt hq (fun hb => ih (q - 1) (r + h) (by rw [Int.sub_mul]; omega) (by omega) hb (by omega) (by omega) (by omega))
    have hm := mul_le_of (a := q) (b := l) (A := 4294967297) (B := 4294967295) (by omega) hl (by omega) (by omega)
    have hmm : 0 ≤ q * l := Int.mul_nonneg (by omega) hl
    refine Ev.step (fun k => ?_) hj
    simp only [bits_Div64.l1]
    by_cases h1 : 4294967296 ≤ q
    · rw [if_pos (by omega)]
    · rw [if_neg (by omega), wu64_id (q * l) hmm (by omega), wu64_id (4294967296 * r) (by omega) (by omega), wu64_id (4294967296 * r + d) (by omega) (by omega), decide_eq_true (by omega)]
end
section
variable {Y s h l u d e : Int}
theorem div_j2 (hY : Y = h * 4294967296 + l) (hl : 0 ≤ l) (hl2 : l < 4294967296) (hh : 2147483648 ≤ h) (hh2 : h < 4294967296) (hu0 : 0 ≤ u) (hu : u < Y) (hd0 : 0 ≤ d) (hd : d < 4294967296) (he0 : 0 ≤ e) (he : e < 4294967296) (hs : 0 ≤ s) :
    Ev (fun k => bits_Div64.j2 k Y s h l u d e ((u * 4294967296 + d) / Y)) ((u * 4294967296 + d) / Y * 4294967296 + ((u * 4294967296 + d) % Y * 4294967296 + e) / Y, shr .u64 (((u * 4294967296 + d) % Y * 4294967296 + e) % Y) s) := by
  have hp : 0 < Y := by omega
  have htop := digit_top hp hu hd
  have hq0 : 0 ≤ (u * 4294967296 + d) / Y := Int.ediv_nonneg (by omega) (by omega)
  have hmod : (u * 4294967296 + d) - (u * 4294967296 + d) / Y * Y = (u * 4294967296 + d) % Y := by
    have := Int.mul_ediv_add_emod (u * 4294967296 + d) Y
    rw [Int.mul_comm] at this
    omega
  have hm1 := Int.emod_lt_of_pos (u * 4294967296 + d) hp
  have hm0 := Int.emod_nonneg (u * 4294967296 + d) (by omega : Y ≠ 0)
  have hrest : IntKind.u64.wrap (IntKind.u64.wrap (IntKind.u64.wrap (u * 4294967296) + d) - IntKind.u64.wrap ((u * 4294967296 + d) / Y * Y)) = (u * 4294967296 + d) % Y := by
    simp only [wu64]
    omega
  generalize (u * 4294967296 + d) / Y = q1 at *
  generalize (u * 4294967296 + d) % Y = v at *
  have hv : v / h * h + v % h = v := by
    have := Int.mul_ediv_add_emod v h
    rw [Int.mul_comm] at this
    exact this
  have hvm1 := Int.emod_lt_of_pos v (by omega : 0 < h)
  have hvm0 := Int.emod_nonneg v (by omega : h ≠ 0)
  have hvd0 : 0 ≤ v / h := Int.ediv_nonneg hm0 (by omega)
  have hvd1 : v / h ≤ 4294967297 := by
    have : v / h < 4294967298 := Int.ediv_lt_of_lt_mul (by omega) (by omega)
    omega
  have hle : (v * 4294967296 + e) / Y ≤ v / h := by
    refine Classical.byContradiction fun hn => ?_
    have h1 := Int.ediv_mul_le (v * 4294967296 + e) (by omega : Y ≠ 0)
    have h2 : (v / h + 1) * Y ≤ (v * 4294967296 + e) / Y * Y := Int.mul_le_mul_of_nonneg_right (by omega) (by omega)
    have h3 : (v / h + 1) * Y = (v / h * h + h) * 4294967296 + (v / h + 1) * l := by rw [hY, Int.mul_add, ← Int.mul_assoc, Int.add_mul (v / h) 1 h, Int.one_mul]
    have h4 : 0 ≤ (v / h + 1) * l := Int.mul_nonneg (by omega) hl
    omega
  refine Ev.step (fun k => ?_) (div_l1 (s := s) (q1 := q1) hY hl hl2 hh hh2 hm0 hm1 he0 he hs hq0 htop ((v / h - (v * 4294967296 + e) / Y).toNat) (v / h) (v % h) hv hvm0 (by omega) hle hvd1 (by omega))
  simp only [bits_Div64.j2]
  rw [if_neg (by omega), hrest, tdiv_pos hm0, wu64_id (v / h) hvd0 (by omega), wu64_id (v / h * h) (Int.mul_nonneg hvd0 (by omega)) (by omega), show v - v / h * h = v % h from by omega, wu64_id (v % h) hvm0 (by omega)]
end
theorem bitLen_bounds (y : Nat) (h0 : y ≠ 0) (h : y < 18446744073709551616) : 1 ≤ Lib.bitLen y ∧ 2 ^ (Lib.bitLen y - 1) ≤ y ∧ y < 2 ^ Lib.bitLen y :=
  Lib.bitLenAux_bounds 64 y h h0
theorem div_join {N y p Y q1 q0 w : Int} (hp : 0 < p) (hY : Y = y * p) (hN : N * p = (q1 * 4294967296 + q0) * Y + w) (hw0 : 0 ≤ w) (hw : w < Y) :
    q1 * 4294967296 + q0 = N / y ∧ w / p = N % y := by
  generalize q1 * 4294967296 + q0 = Q at *
  have hw' : w = (N - Q * y) * p := by rw [Int.sub_mul, hN, hY, Int.mul_assoc]; omega
  have hyp : 0 < Y := by omega
  have hr0 : 0 ≤ N - Q * y := by
    refine Classical.byContradiction fun hn => ?_
    have : (N - Q * y) * p < 0 := Int.mul_neg_of_neg_of_pos (by omega) hp
    omega
  have hr1 : N - Q * y < y := by
    refine Int.lt_of_mul_lt_mul_right (a := p) ?_ (by omega)
    rw [← hw', ← hY]; exact hw
  have hy : 0 < y := by omega
  have e1 : N / y = Q := by
    rw [show N = (N - Q * y) + Q * y from by omega, Int.add_mul_ediv_right _ _ (by omega), Int.ediv_eq_zero_of_lt hr0 hr1]; omega
  refine ⟨e1.symm, ?_⟩
  rw [hw', Int.mul_ediv_cancel _ (by omega)]
  have := Int.mul_ediv_add_emod N y
  rw [e1, Int.mul_comm] at this
  omega
theorem two_pow_split (S : Nat) (h : S ≤ 64) : (2 : Int) ^ S * 2 ^ (64 - S) = 18446744073709551616 := by
  rw [← Int.pow_add, show S + (64 - S) = 64 from by omega]; rfl
theorem bits_Div64_ev (a0 a1 a2 : Int) (h0 : 0 ≤ a0) (h1 : U a1) (h2 : U a2) (h : a0 < a2) :
    Ev (fun k => bits_Div64.f k a0 a1 a2) ((a0 * 18446744073709551616 + a1) / a2, (a0 * 18446744073709551616 + a1) % a2) := by
  unfold U at h1 h2
  by_cases hz : a0 = 0
  · subst hz
    refine Ev.congr (fun k => ?_) (Ev.now _)
    unfold bits_Div64.f
    rw [if_neg (by omega), if_neg (by omega), if_pos rfl, tdiv_pos h1.1, tmod_pos h1.1, wu64_id _ (Int.ediv_nonneg h1.1 (by omega)) (by have := Int.ediv_le_self a2 h1.1; omega)]
    simp
  · obtain ⟨y, rfl⟩ := Int.eq_ofNat_of_zero_le h2.1
    obtain ⟨b1, b2, b3⟩ := bitLen_bounds y (by omega) (by omega)
    have b4 : Lib.bitLen y ≤ 64 := Lib.bitLen_le y 64 (by omega) (by have := h2.2; omega)
    generalize hL : Lib.bitLen y = L at *
    -- s = 64 - L
    obtain ⟨S, hS, hS2⟩ : ∃ S : Nat, 64 - (L : Int) = S ∧ S = 64 - L := ⟨64 - L, by omega, rfl⟩
    have hP := two_pow_split S (by omega)
    have hp0 : (0 : Int) < 2 ^ S := Int.pow_pos (by omega)
    have hp1 : (0 : Int) < 2 ^ (64 - S) := Int.pow_pos (by omega)
    have hLS : 64 - S = L := by omega
    have hb3 : ((y : Int)) < 2 ^ (64 - S) := by rw [hLS]; exact_mod_cast b3
    have hb2 : (2 : Int) ^ (64 - S) ≤ 2 * y := by
      rw [hLS, show L = (L - 1) + 1 from by omega, Int.pow_succ]
      have : ((2 ^ (L - 1) : Nat) : Int) ≤ y := by exact_mod_cast b2
      rw [Int.natCast_pow] at this
      have e2 : ((2 : Nat) : Int) = 2 := rfl
      rw [e2] at this
      omega
    have hYlt : (y : Int) * 2 ^ S < 18446744073709551616 := by
      rw [← hP, Int.mul_comm ((2 : Int) ^ S)]; exact Int.mul_lt_mul_of_pos_right hb3 hp0
    have hYge : (9223372036854775808 : Int) ≤ y * 2 ^ S := by
      have : (2 : Int) ^ (64 - S) * 2 ^ S ≤ 2 * y * 2 ^ S := Int.mul_le_mul_of_nonneg_right hb2 (by omega)
      rw [Int.mul_comm ((2 : Int) ^ (64 - S)), hP, Int.mul_assoc] at this
      omega
    have hs1 : shl .u64 (y : Int) (S : Int) = y * 2 ^ S := by
      unfold shl
      rw [show min ((S : Int)).toNat IntKind.u64.bits = S from by simp [IntKind.bits] <;> omega, wu64_id _ (by omega) hYlt]
    have hlt0 : a0 * 2 ^ S < y * 2 ^ S := Int.mul_lt_mul_of_pos_right h hp0
    have hs2 : shl .u64 a0 (S : Int) = a0 * 2 ^ S := by
      unfold shl
      rw [show min ((S : Int)).toNat IntKind.u64.bits = S from by simp [IntKind.bits] <;> omega, wu64_id _ (Int.mul_nonneg h0 (by omega)) (by omega)]
    have hs3 : shr .u64 a1 ((64 - S : Int)) = a1 / 2 ^ (64 - S) := by
      unfold shr
      rw [show min ((64 - S : Int)).toNat IntKind.u64.bits = 64 - S from by simp [IntKind.bits] <;> omega]
    have hs4 : shl .u64 a1 (S : Int) = (a1 * 2 ^ S) % 18446744073709551616 := by
      unfold shl
      rw [show min ((S : Int)).toNat IntKind.u64.bits = S from by simp [IntKind.bits] <;> omega, wu64]
    have hq : a1 / 2 ^ (64 - S) < 2 ^ S := by
      refine Int.ediv_lt_of_lt_mul hp1 ?_
      rw [hP]; exact h1.2
    have hq0 : 0 ≤ a1 / 2 ^ (64 - S) := Int.ediv_nonneg h1.1 (by omega)
    have hdiv : (a1 * 2 ^ S) / 18446744073709551616 = a1 / 2 ^ (64 - S) := by
      rw [← hP, Int.mul_comm a1, Int.mul_ediv_mul_of_pos _ _ hp0]
    have hun10 := Int.mul_ediv_add_emod (a1 * 2 ^ S) 18446744073709551616
    rw [hdiv] at hun10
    have hor : Go.bits .or .u64 (a0 * 2 ^ S) (a1 / 2 ^ (64 - S)) = a0 * 2 ^ S + a1 / 2 ^ (64 - S) := by
      have hpow : ((2 : Int) ^ S) ≤ 18446744073709551616 := by
        rw [← hP]
        have := Int.mul_le_mul_of_nonneg_left (by omega : (1 : Int) ≤ 2 ^ (64 - S)) (by omega : (0 : Int) ≤ 2 ^ S)
        omega
      exact bits_join .u64 64 (by decide) wraps_u64 S (a0 * 2 ^ S) (a1 / 2 ^ (64 - S)) (Int.mul_nonneg h0 (by omega)) (Int.mul_emod_left _ _) (by omega) hq0 hq (by omega)
    have hur : a0 * 2 ^ S + a1 / 2 ^ (64 - S) < y * 2 ^ S := by
      have : (a0 + 1) * 2 ^ S ≤ y * 2 ^ S := Int.mul_le_mul_of_nonneg_right (by omega) (by omega)
      rw [Int.add_mul, Int.one_mul] at this
      omega
    have hmul0 : 0 ≤ a0 * 2 ^ S := Int.mul_nonneg h0 (by omega)
    have hN : (a0 * 18446744073709551616 + a1) * 2 ^ S = (a0 * 2 ^ S + a1 / 2 ^ (64 - S)) * 18446744073709551616 + (a1 * 2 ^ S) % 18446744073709551616 := by
      have e1 : (a0 * 18446744073709551616 + a1) * 2 ^ S = a0 * 2 ^ S * 18446744073709551616 + a1 * 2 ^ S := by
        rw [Int.add_mul, Int.mul_right_comm]
      omega
    have hM0 := Int.emod_nonneg (a1 * 2 ^ S) (by omega : (18446744073709551616 : Int) ≠ 0)
    have hM1 := Int.emod_lt_of_pos (a1 * 2 ^ S) (by omega : (0 : Int) < 18446744073709551616)
    have hshr : ∀ w : Int, shr .u64 w (S : Int) = w / 2 ^ S := by
      intro w
      unfold shr
      rw [show min ((S : Int)).toNat IntKind.u64.bits = S from by simp [IntKind.bits] <;> omega]
    generalize hu : a0 * 2 ^ S + a1 / 2 ^ (64 - S) = u at *
    generalize hm : (a1 * 2 ^ S) % 18446744073709551616 = m at *
    generalize hp : (2 : Int) ^ S = p at *
    generalize hYY : (y : Int) * p = Y at *
    have hYdm : Y = Y / 4294967296 * 4294967296 + Y % 4294967296 := by omega
    have ev2 := div_j2 (s := (S : Int)) (Y := Y) (h := Y / 4294967296) (l := Y % 4294967296) (u := u) (d := m / 4294967296) (e := m % 4294967296) hYdm (by omega) (by omega) (by omega) (by omega) (by omega) hur (by omega) (by omega) (by omega) (by omega) (by omega)
    have hp' : 0 < Y := by omega
    have hu1 : u / (Y / 4294967296) * (Y / 4294967296) + u % (Y / 4294967296) = u := by
      have := Int.mul_ediv_add_emod u (Y / 4294967296)
      rw [Int.mul_comm] at this
      exact this
    have hvm1 := Int.emod_lt_of_pos u (by omega : 0 < Y / 4294967296)
    have hvm0 := Int.emod_nonneg u (by omega : Y / 4294967296 ≠ 0)
    have hvd0 : 0 ≤ u / (Y / 4294967296) := Int.ediv_nonneg (by omega) (by omega)
    have hvd1 : u / (Y / 4294967296) ≤ 4294967297 := by
      have : u / (Y / 4294967296) < 4294967298 := Int.ediv_lt_of_lt_mul (by omega) (by omega)
      omega
    have hle : (u * 4294967296 + m / 4294967296) / Y ≤ u / (Y / 4294967296) := by
      refine Classical.byContradiction fun hn => ?_
      have g1 := Int.ediv_mul_le (u * 4294967296 + m / 4294967296) (by omega : Y ≠ 0)
      have g2 : (u / (Y / 4294967296) + 1) * Y ≤ (u * 4294967296 + m / 4294967296) / Y * Y := Int.mul_le_mul_of_nonneg_right (by omega) (by omega)
      have g3 : (u / (Y / 4294967296) + 1) * Y = (u / (Y / 4294967296) * (Y / 4294967296) + Y / 4294967296) * 4294967296 + (u / (Y / 4294967296) + 1) * (Y % 4294967296) := by
        have : (u / (Y / 4294967296) + 1) * Y = (u / (Y / 4294967296) + 1) * (Y / 4294967296 * 4294967296 + Y % 4294967296) := by rw [← hYdm]
        rw [this, Int.mul_add, ← Int.mul_assoc, Int.add_mul (u / (Y / 4294967296)) 1 (Y / 4294967296), Int.one_mul]
      have g4 : 0 ≤ (u / (Y / 4294967296) + 1) * (Y % 4294967296) := Int.mul_nonneg (by omega) (by omega)
      omega
    have ev0 := div_l0 (s := (S : Int)) hYdm (by omega) (by omega) (by omega) (by omega) (by omega) hur (by omega) (by omega) ev2 ((u / (Y / 4294967296) - (u * 4294967296 + m / 4294967296) / Y).toNat) (u / (Y / 4294967296)) (u % (Y / 4294967296)) hu1 hvm0 (by omega) hle hvd1 (by omega)
    have hdm1 := Int.mul_ediv_add_emod (u * 4294967296 + m / 4294967296) Y
    have hdm2 := Int.mul_ediv_add_emod ((u * 4294967296 + m / 4294967296) % Y * 4294967296 + m % 4294967296) Y
    have hw1 := Int.emod_lt_of_pos ((u * 4294967296 + m / 4294967296) % Y * 4294967296 + m % 4294967296) hp'
    have hw0 := Int.emod_nonneg ((u * 4294967296 + m / 4294967296) % Y * 4294967296 + m % 4294967296) (by omega : Y ≠ 0)
    generalize (u * 4294967296 + m / 4294967296) / Y = q1 at *
    generalize (u * 4294967296 + m / 4294967296) % Y = v at *
    generalize (v * 4294967296 + m % 4294967296) / Y = q2 at *
    generalize (v * 4294967296 + m % 4294967296) % Y = w at *
    obtain ⟨j1, j2⟩ := div_join (N := a0 * 18446744073709551616 + a1) (y := (y : Int)) (p := p) (Y := Y) (q1 := q1) (q0 := q2) (w := w) hp0 hYY.symm (by
      rw [hN]
      have : (q1 * 4294967296 + q2) * Y = Y * q1 * 4294967296 + Y * q2 := by rw [Int.add_mul, Int.mul_right_comm, Int.mul_comm q1, Int.mul_comm q2]
      omega) hw0 hw1
    rw [j1, hshr, j2] at ev0
    refine Ev.congr (fun k => ?_) ev0
    unfold bits_Div64.f bits_LeadingZeros64.f
    rw [if_neg (by omega), if_neg (by omega), if_neg hz, if_pos (by omega)]
    simp only [Option.bind_some, Int.toNat_natCast, hL, hS]
    rw [wu64_id (S : Int) (by omega) (by omega), wu64_id (64 - (S : Int)) (by omega) (by omega), if_pos (by omega), if_pos (by omega), hs1, hs2, hs3, hs4, hor, if_neg (by omega), tdiv_pos (by omega),
      and32 Y (by unfold U; omega), and32 m (by unfold U; omega), wu64_id (u / (Y / 4294967296)) hvd0 (by omega), wu64_id (u / (Y / 4294967296) * (Y / 4294967296)) (Int.mul_nonneg hvd0 (by omega)) (by omega), show u - u / (Y / 4294967296) * (Y / 4294967296) = u % (Y / 4294967296) from by omega, wu64_id (u % (Y / 4294967296)) hvm0 (by omega)]
theorem bits_Rem64_ev (a0 a1 a2 : Int) (h0 : U a0) (h1 : U a1) (h2 : U a2) (h : a2 ≠ 0) :
    Ev (fun k => bits_Rem64.f k a0 a1 a2) ((a0 * 18446744073709551616 + a1) % a2) := by
  have hp : 0 < a2 := by unfold U at h2; omega
  have hm0 := Int.emod_nonneg a0 h
  have hm1 := Int.emod_lt_of_pos a0 hp
  have e := bits_Div64_ev (a0 % a2) a1 a2 hm0 h1 h2 hm1
  have hmod : (a0 % a2 * 18446744073709551616 + a1) % a2 = (a0 * 18446744073709551616 + a1) % a2 := by
    rw [Int.add_emod, Int.mul_emod, Int.emod_emod, ← Int.mul_emod, ← Int.add_emod]
  have e2 : Ev (fun k => (bits_Div64.f k (a0 % a2) a1 a2).bind fun b => (some b.2)) ((a0 % a2 * 18446744073709551616 + a1) % a2) := Ev.bind e (Ev.now _)
  rw [hmod] at e2
  refine Ev.congr (fun k => ?_) e2
  unfold bits_Rem64.f
  rw [if_neg h, tmod_pos h0.1]
end Go.Proofs.YtndkmnjbjlfeaaaGreat.XS
end
section
namespace Go.Proofs.YtndkmnjbjlfeaaaGreat.Mont
open Go Go.RowKit Go.Proofs.YtndkmnjbjlfeaaaGreatW.PrintWords Go.Proofs.YtndkmnjbjlfeaaaGreatW.PrintLast Go.Proofs.YtndkmnjbjlfeaaaGreatW.PrintMore Go.Proofs.YtndkmnjbjlfeaaaGreat.Given Go.Proofs.YtndkmnjbjlfeaaaGreat.M Go.Proofs.YtndkmnjbjlfeaaaGreat.XS
def CtxBlk (W : World) (g : Nat) (m t : Int) : Prop := W.heap[g]? = some (.cells #[.int .u64 m, .int .u64 t, .int .u64 (mOne m), .int .u64 (mSq m)] 178 (0, 0))
def IsCtx (W : World) (v : Value) (m : Int) : Prop := ∃ (g : Nat) (t : Int), v = .pointer (some ⟨g, 0, none⟩) ∧ CtxBlk W g m t ∧ GoodM m ∧ U t ∧ (18446744073709551616 : Int) ∣ m * t + 1
def CtxP (W : World) (v : Value) : Option Int → Prop
  | none => v = .pointer none
  | some m => IsCtx W v m
theorem IsCtx.below {W W1 : World} {v : Value} {m : Int} (h : IsCtx W v m) (hb : Below W.heap.size W W1) : IsCtx W1 v m := by
  obtain ⟨g, t, e, hc, r⟩ := h
  exact ⟨g, t, e, blk_below hc hb, r⟩
theorem CtxP.below {W W1 : World} {v : Value} {o : Option Int} (h : CtxP W v o) (hb : Below W.heap.size W W1) : CtxP W1 v o := by
  cases o with
  | none => exact h
  | some m => exact IsCtx.below h hb
theorem IsCtx.drewN {W : World} {v : Value} {m : Int} (h : IsCtx W v m) (n : Nat) : IsCtx (W.drewN n) v m := h
section
variable {W : World} {g : Nat} {m t : Int} (h : CtxBlk W g m t)
include h
theorem CtxBlk.c0 : W.cell? ⟨g, 0, none⟩ = some (.int .u64 m) := (blk_cell h 0).trans rfl
theorem CtxBlk.c1 : W.cell? ⟨g, 1, none⟩ = some (.int .u64 t) := (blk_cell h 1).trans rfl
theorem CtxBlk.c2 : W.cell? ⟨g, 2, none⟩ = some (.int .u64 (mOne m)) := (blk_cell h 2).trans rfl
theorem CtxBlk.c3 : W.cell? ⟨g, 3, none⟩ = some (.int .u64 (mSq m)) := (blk_cell h 3).trans rfl
end
set_option maxHeartbeats 1000000 in
theorem cut_calls {g : Nat} {m t x r : Int} {w : World} (hc : CtxBlk w g m t) (hm : GoodM m) (hx : U x) (hr : Aside0 (r = x % m)) :
    Calls Tryz.prog 131 #[.pointer (some ⟨g, 0, none⟩), .int .u64 x] w fun e w' => e = .returned (.int .u64 r) ∧ Drawn0 w w' := by
  have h0 := hc.c0
  have f0 := blk_frozen hc 0
  clear hc
  by_cases h1 : m ≤ x
  · have hb : decide (m ≤ x) = true := decide_eq_true h1
    have hz : (m == 0) = false := beq_eq_false_iff_ne.mpr (good_ne hm)
    have hz1 : ¬ m = 0 := good_ne hm
    have hx0 : 0 ≤ x := hx.1
    clear hm hx h1
    go_enter Tryz.func131, Tryz.ntmps131
    go_wp2
    go_ret
    exact ⟨by rw [hr.out] <;> first | rfl | (simp; done), Drawn0.refl _⟩
  · have hb : decide (m ≤ x) = false := decide_eq_false h1
    have he : x % m = x := Int.emod_eq_of_lt hx.1 (by omega)
    have hr' := Aside0.mk (hr.out.trans he)
    clear hm hx h1 he
    go_enter Tryz.func131, Tryz.ntmps131
    go_wp2
    go_ret
    exact ⟨by rw [hr'.out] <;> first | rfl | (simp; done), Drawn0.refl _⟩
set_option maxHeartbeats 2000000 in
theorem reduce_calls {g : Nat} {m t hi lo r : Int} {w : World} (hc : CtxBlk w g m t) (hm : GoodM m) (hd : (18446744073709551616 : Int) ∣ m * t + 1) (h0 : 0 ≤ hi) (h1 : hi < m) (hl : U lo) (hr : Aside0 (r = mOut m (hi * 18446744073709551616 + lo))) :
    Calls Tryz.prog 130 #[.pointer (some ⟨g, 0, none⟩), .int .u64 hi, .int .u64 lo] w fun e w' => e = .returned (.int .u64 r) ∧ Drawn0 w w' := by
  obtain ⟨q, hq⟩ : ∃ q, q = lo * t % 18446744073709551616 := ⟨_, rfl⟩
  obtain ⟨P, hP⟩ : ∃ P, P = q * m := ⟨_, rfl⟩
  obtain ⟨h, hh⟩ : ∃ h, h = P / 18446744073709551616 := ⟨_, rfl⟩
  obtain ⟨l, hll⟩ : ∃ l, l = P % 18446744073709551616 := ⟨_, rfl⟩
  obtain ⟨c, hcc⟩ : ∃ c, c = (lo + l) / 18446744073709551616 := ⟨_, rfl⟩
  obtain ⟨T, hT⟩ : ∃ T, T = hi + h + c := ⟨_, rfl⟩
  obtain ⟨r0, r1, r2, r3, r4, r5, r6, r7⟩ := redc hm hd h0 h1 hl.1 hl.2 hq hP hh hll hcc hT
  have hend := redc_end r5 r6 r7
  have hmU := good_U hm
  have hq0 : U q := by rw [hq]; unfold U; omega
  have hw : IntKind.u64.wrap (lo * t) = q := by rw [wu64, hq]
  have m1 : bits_Mul64.f (IntKind.u64.wrap (lo * t)) m = some (h, l) := by
    unfold bits_Mul64.f
    rw [hw, if_pos ⟨hq0.1, hq0.2, hmU.1, hmU.2⟩, hh, hll, hP]
  obtain ⟨s1, a1⟩ : ∃ s1, bits_Add64.f lo l 0 = some (s1, c) := by
    refine ⟨(lo + l + 0) % 18446744073709551616, ?_⟩
    unfold bits_Add64.f
    rw [if_pos ⟨hl.1, r1, by omega, by omega⟩, hcc, Int.add_zero]
  obtain ⟨c2, a2⟩ : ∃ c2, bits_Add64.f hi h c = some (T, c2) := by
    refine ⟨(hi + h + c) / 18446744073709551616, ?_⟩
    unfold bits_Add64.f
    rw [if_pos ⟨h0, r0, r3, r4⟩, ← hT, Int.emod_eq_of_lt r5 (by unfold GoodM at hm; omega)]
  have x1 := fun W => bits_Add64.run lo l 0 s1 c W a1
  have x2 := fun W => bits_Add64.run hi h c T c2 W a2
  have M1 := Aside0.mk m1
  have k0 := hc.c0
  have k1 := hc.c1
  have f0 := blk_frozen hc 0
  have f1 := blk_frozen hc 1
  by_cases hTm : m ≤ T
  · have hb : decide (m ≤ T) = true := decide_eq_true hTm
    have e1 : r = IntKind.u64.wrap (T - m) := by rw [hr.out, ← hend, if_pos hTm, wu64_id _ (by omega) (by unfold GoodM at hm; omega)]
    have E1 := Aside0.mk e1
    clear e1 hc hm hd h0 h1 hl hr hq hP hh hll hcc hT r0 r1 r2 r3 r4 r5 r6 r7 hend hmU hq0 hw m1 a1 a2 hTm
    go_enter Tryz.func130, Tryz.ntmps130
    go_wp2
    repeat (go_quiet (first | (go_at_call 125; (with_reducible refine (bits_Mul64.calls _ _ h l _ M1.out).mono ?_); rintro e w' ⟨rfl, ⟨nd, rfl⟩⟩; (try first | exact qA | exact qB))); try go_wp2)
    go_ret
    exact ⟨by rw [E1.out] <;> first | rfl | (simp; done), by repeat (first | exact Drawn0.refl _ | apply Drawn0.step)⟩
  · have hb : decide (m ≤ T) = false := decide_eq_false hTm
    have e1 : r = T := by rw [hr.out, ← hend, if_neg hTm]
    have E1 := Aside0.mk e1
    clear e1 hc hm hd h0 h1 hl hr hq hP hh hll hcc hT r0 r1 r2 r3 r4 r5 r6 r7 hend hmU hq0 hw m1 a1 a2 hTm
    go_enter Tryz.func130, Tryz.ntmps130
    go_wp2
    repeat (go_quiet (first | (go_at_call 125; (with_reducible refine (bits_Mul64.calls _ _ h l _ M1.out).mono ?_); rintro e w' ⟨rfl, ⟨nd, rfl⟩⟩; (try first | exact qA | exact qB))); try go_wp2)
    go_ret
    exact ⟨by rw [E1.out] <;> first | rfl | (simp; done), by repeat (first | exact Drawn0.refl _ | apply Drawn0.step)⟩
theorem mul64_calls {x y h l : Int} {w : World} (hr : Aside0 (bits_Mul64.f x y = some (h, l))) :
    Calls Tryz.prog 125 #[.int .u64 x, .int .u64 y] w fun e w' => e = .returned (.tuple #[.int .u64 h, .int .u64 l]) ∧ Drawn0 w w' :=
  bits_Mul64.calls x y h l w hr.out
set_option maxHeartbeats 2000000 in
theorem Mul_some {v : Value} {m x y r : Int} {w : World} (hc : IsCtx w v m) (hx : U x) (hy : U y) (hr : Aside0 (r = mMul m x y)) :
    Calls Tryz.prog 100 #[v, .int .u64 x, .int .u64 y] w fun e w' => e = .returned (.int .u64 r) ∧ Drawn0 w w' := by
  obtain ⟨g, t, rfl, hb, hm, ht, hd⟩ := hc
  obtain ⟨x', hx'⟩ : ∃ x', x' = x % m := ⟨_, rfl⟩
  obtain ⟨y', hy'⟩ : ∃ y', y' = y % m := ⟨_, rfl⟩
  have ux := U_mod hm x
  have uy := U_mod hm y
  have lx := lt_mod hm x
  have ly := lt_mod hm y
  rw [← hx'] at ux lx
  rw [← hy'] at uy ly
  have p0 : 0 ≤ x' * y' := Int.mul_nonneg ux.1 uy.1
  have p1 : x' * y' ≤ (m - 1) * (m - 1) := Int.mul_le_mul (by omega) (by omega) uy.1 (by unfold GoodM at hm; omega)
  have p2 : (m - 1) * (m - 1) < m * 18446744073709551616 := by
    have : (m - 1) * (m - 1) ≤ (m - 1) * 18446744073709551616 := Int.mul_le_mul_of_nonneg_left (by unfold GoodM at hm; omega) (by unfold GoodM at hm; omega)
    unfold GoodM at hm; omega
  obtain ⟨h, hh⟩ : ∃ h, h = x' * y' / 18446744073709551616 := ⟨_, rfl⟩
  obtain ⟨l, hl⟩ : ∃ l, l = x' * y' % 18446744073709551616 := ⟨_, rfl⟩
  have M1 : Aside0 (bits_Mul64.f x' y' = some (h, l)) := ⟨by unfold bits_Mul64.f; rw [if_pos ⟨ux.1, ux.2, uy.1, uy.2⟩, hh, hl]⟩
  have R1 : Aside0 (r = mOut m (h * 18446744073709551616 + l)) := ⟨by
    rw [hr.out, ← mMul_rest, ← hx', ← hy', hh, hl]; congr 1; omega⟩
  have X1 := Aside0.mk hx'
  have Y1 := Aside0.mk hy'
  have h0 : 0 ≤ h := by rw [hh]; omega
  have h1 : h < m := by rw [hh]; omega
  have lU : U l := by rw [hl]; unfold U; omega
  have HB := Aside0.mk hb
  have HN : Aside0 (∀ n, CtxBlk (w.drewN n) g m t) := ⟨fun _ => hb⟩
  have HM := Aside0.mk hm
  have HD := Aside0.mk hd
  have HX := Aside0.mk hx
  have HY := Aside0.mk hy
  have H0 := Aside0.mk h0
  have H1 := Aside0.mk h1
  have HL := Aside0.mk lU
  clear hx' hy' ux uy lx ly p0 p1 p2 hh hl h0 h1 lU hb hm ht hd hx hy hr
  go_enter Tryz.func100, Tryz.ntmps100
  go_wp2_with (first
    | (go_at_call 131; (with_reducible refine (cut_calls HB.out HM.out HX.out X1).mono ?_); rintro e w' ⟨rfl, ⟨nd, rfl⟩⟩; (try first | exact qA | exact qB))
    | (go_at_call 131; (with_reducible refine (cut_calls (HN.out _) HM.out HX.out X1).mono ?_); rintro e w' ⟨rfl, ⟨nd, rfl⟩⟩; (try first | exact qA | exact qB))
    | (go_at_call 131; (with_reducible refine (cut_calls HB.out HM.out HY.out Y1).mono ?_); rintro e w' ⟨rfl, ⟨nd, rfl⟩⟩; (try first | exact qA | exact qB))
    | (go_at_call 131; (with_reducible refine (cut_calls (HN.out _) HM.out HY.out Y1).mono ?_); rintro e w' ⟨rfl, ⟨nd, rfl⟩⟩; (try first | exact qA | exact qB))
    | (go_at_call 125; (with_reducible refine (mul64_calls M1).mono ?_); rintro e w' ⟨rfl, ⟨nd, rfl⟩⟩; (try first | exact qA | exact qB))
    | (go_at_call 130; (with_reducible refine (reduce_calls HB.out HM.out HD.out H0.out H1.out HL.out R1).mono ?_); rintro e w' ⟨rfl, ⟨nd, rfl⟩⟩; (try first | exact qA | exact qB))
    | (go_at_call 130; (with_reducible refine (reduce_calls (HN.out _) HM.out HD.out H0.out H1.out HL.out R1).mono ?_); rintro e w' ⟨rfl, ⟨nd, rfl⟩⟩; (try first | exact qA | exact qB))
    )
  go_ret
  exact ⟨by first | rfl | (simp; done), by repeat (first | exact Drawn0.refl _ | apply Drawn0.step)⟩
set_option maxHeartbeats 2000000 in
theorem Out_some {v : Value} {m x r : Int} {w : World} (hc : IsCtx w v m) (hx : U x) (hr : Aside0 (r = mOut m x)) :
    Calls Tryz.prog 101 #[v, .int .u64 x] w fun e w' => e = .returned (.int .u64 r) ∧ Drawn0 w w' := by
  obtain ⟨g, t, rfl, hb, hm, ht, hd⟩ := hc
  obtain ⟨x', hx'⟩ : ∃ x', x' = x % m := ⟨_, rfl⟩
  have ux := U_mod hm x
  rw [← hx'] at ux
  have R1 : Aside0 (r = mOut m (0 * 18446744073709551616 + x')) := ⟨by rw [hr.out, hx', Int.zero_mul, Int.zero_add, mOut_rest]⟩
  have X1 := Aside0.mk hx'
  have h1 := good_pos hm
  have HB := Aside0.mk hb
  have HN : Aside0 (∀ n, CtxBlk (w.drewN n) g m t) := ⟨fun _ => hb⟩
  have HM := Aside0.mk hm
  have HD := Aside0.mk hd
  have HX := Aside0.mk hx
  have H1 := Aside0.mk h1
  have HL := Aside0.mk ux
  clear hx' ux h1 hb hm ht hd hx hr
  go_enter Tryz.func101, Tryz.ntmps101
  go_wp2_with (first
    | (go_at_call 131; (with_reducible refine (cut_calls HB.out HM.out HX.out X1).mono ?_); rintro e w' ⟨rfl, ⟨nd, rfl⟩⟩; (try first | exact qA | exact qB))
    | (go_at_call 131; (with_reducible refine (cut_calls (HN.out _) HM.out HX.out X1).mono ?_); rintro e w' ⟨rfl, ⟨nd, rfl⟩⟩; (try first | exact qA | exact qB))
    | (go_at_call 130; (with_reducible refine (reduce_calls HB.out HM.out HD.out (Int.le_refl 0) H1.out HL.out R1).mono ?_); rintro e w' ⟨rfl, ⟨nd, rfl⟩⟩; (try first | exact qA | exact qB))
    | (go_at_call 130; (with_reducible refine (reduce_calls (HN.out _) HM.out HD.out (Int.le_refl 0) H1.out HL.out R1).mono ?_); rintro e w' ⟨rfl, ⟨nd, rfl⟩⟩; (try first | exact qA | exact qB))
    )
  go_ret
  exact ⟨by first | rfl | (simp; done), by repeat (first | exact Drawn0.refl _ | apply Drawn0.step)⟩
set_option maxHeartbeats 2000000 in
theorem In_some {v : Value} {m x r : Int} {w : World} (hc : IsCtx w v m) (hx : U x) (hr : Aside0 (r = mIn m x)) :
    Calls Tryz.prog 98 #[v, .int .u64 x] w fun e w' => e = .returned (.int .u64 r) ∧ Drawn0 w w' := by
  have hc' := hc
  obtain ⟨g, t, rfl, hb, hm, ht, hd⟩ := hc'
  obtain ⟨s, hs⟩ : ∃ s, s = mSq m := ⟨_, rfl⟩
  have us : U s := by rw [hs]; exact U_mod hm _
  have R1 : Aside0 (r = mMul m x s) := ⟨by rw [hr.out, hs, mMul_sq hm]⟩
  have k3 := hb.c3
  have f3 := blk_frozen hb 3
  rw [← hs] at k3
  have HB := Aside0.mk hc
  have HN : Aside0 (∀ n, IsCtx (w.drewN n) (.pointer (some ⟨g, 0, none⟩)) m) := ⟨fun _ => hc⟩
  have HX := Aside0.mk hx
  have HL := Aside0.mk us
  clear us hs hb hm ht hd hx hr hc
  go_enter Tryz.func98, Tryz.ntmps98
  go_wp2_with (first
    | (go_at_call 100; (with_reducible refine (Mul_some HB.out HX.out HL.out R1).mono ?_); rintro e w' ⟨rfl, ⟨nd, rfl⟩⟩; (try first | exact qA | exact qB))
    | (go_at_call 100; (with_reducible refine (Mul_some (HN.out _) HX.out HL.out R1).mono ?_); rintro e w' ⟨rfl, ⟨nd, rfl⟩⟩; (try first | exact qA | exact qB))
    )
  go_ret
  exact ⟨by first | rfl | (simp; done), by repeat (first | exact Drawn0.refl _ | apply Drawn0.step)⟩
theorem One_some {v : Value} {m r : Int} {w : World} (hc : IsCtx w v m) (hr : Aside0 (r = mOne m)) :
    Calls Tryz.prog 166 #[v] w fun e w' => e = .returned (.int .u64 r) ∧ Drawn0 w w' := by
  obtain ⟨g, t, rfl, hb, hm, ht, hd⟩ := hc
  have k2 := hb.c2
  have f2 := blk_frozen hb 2
  rw [← hr.out] at k2
  clear hb hm ht hd hr
  go_enter Tryz.func166, Tryz.ntmps166
  go_wp2
  go_ret
  exact ⟨by first | rfl | (simp; done), by repeat (first | exact Drawn0.refl _ | apply Drawn0.step)⟩
set_option maxHeartbeats 2000000 in
theorem Add_some {v : Value} {m x y r : Int} {w : World} (hc : IsCtx w v m) (hx : U x) (hy : U y) (hr : Aside0 (r = mAdd m x y)) :
    Calls Tryz.prog 127 #[v, .int .u64 x, .int .u64 y] w fun e w' => e = .returned (.int .u64 r) ∧ Drawn0 w w' := by
  obtain ⟨g, t, rfl, hb, hm, ht, hd⟩ := hc
  obtain ⟨x', hx'⟩ : ∃ x', x' = x % m := ⟨_, rfl⟩
  obtain ⟨y', hy'⟩ : ∃ y', y' = y % m := ⟨_, rfl⟩
  have k0 := hb.c0
  have f0 := blk_frozen hb 0
  have X1 := Aside0.mk hx'
  have Y1 := Aside0.mk hy'
  have HB := Aside0.mk hb
  have HN : Aside0 (∀ n, CtxBlk (w.drewN n) g m t) := ⟨fun _ => hb⟩
  have HM := Aside0.mk hm
  have HX := Aside0.mk hx
  have HY := Aside0.mk hy
  have x0 := ge_mod hm x
  have x1 := lt_mod hm x
  have y0 := ge_mod hm y
  have y1 := lt_mod hm y
  have hmb : m < 9223372036854775808 := hm.2.2
  have hs : r = (x' + y') % m := by rw [hr.out, hx', hy', Int.emod_add_emod, Int.add_emod_emod]; rfl
  rw [← hx'] at x0 x1
  rw [← hy'] at y0 y1
  have hend := redc_end (T := x' + y') (m := m) (by omega) (by omega) hs.symm
  obtain ⟨s, hs'⟩ : ∃ s, s = x' + y' := ⟨_, rfl⟩
  have hw : IntKind.u64.wrap (x' + y') = s := by rw [wu64_id _ (by omega) (by omega), hs']
  by_cases hz : m ≤ s
  · have b1 : decide (m ≤ s) = true := decide_eq_true hz
    have e1 : r = IntKind.u64.wrap (s - m) := by rw [← hend, if_pos (by omega), wu64_id _ (by omega) (by omega), hs']
    have E1 := Aside0.mk e1
    clear e1 hz hs hs' hend hx' hy' x0 x1 y0 y1 hmb hb hm ht hd hx hy hr
    go_enter Tryz.func127, Tryz.ntmps127
    go_wp2_with (first
      | (go_at_call 131; (with_reducible refine (cut_calls HB.out HM.out HX.out X1).mono ?_); rintro e w' ⟨rfl, ⟨nd, rfl⟩⟩; (try first | exact qA | exact qB))
      | (go_at_call 131; (with_reducible refine (cut_calls (HN.out _) HM.out HX.out X1).mono ?_); rintro e w' ⟨rfl, ⟨nd, rfl⟩⟩; (try first | exact qA | exact qB))
      | (go_at_call 131; (with_reducible refine (cut_calls HB.out HM.out HY.out Y1).mono ?_); rintro e w' ⟨rfl, ⟨nd, rfl⟩⟩; (try first | exact qA | exact qB))
      | (go_at_call 131; (with_reducible refine (cut_calls (HN.out _) HM.out HY.out Y1).mono ?_); rintro e w' ⟨rfl, ⟨nd, rfl⟩⟩; (try first | exact qA | exact qB))
      )
    go_ret
    exact ⟨by rw [E1.out] <;> first | rfl | (simp; done), by repeat (first | exact Drawn0.refl _ | apply Drawn0.step)⟩
  · have b1 : decide (m ≤ s) = false := decide_eq_false hz
    have e1 : r = s := by rw [← hend, if_neg (by omega), hs']
    have E1 := Aside0.mk e1
    clear e1 hz hs hs' hend hx' hy' x0 x1 y0 y1 hmb hb hm ht hd hx hy hr
    go_enter Tryz.func127, Tryz.ntmps127
    go_wp2_with (first
      | (go_at_call 131; (with_reducible refine (cut_calls HB.out HM.out HX.out X1).mono ?_); rintro e w' ⟨rfl, ⟨nd, rfl⟩⟩; (try first | exact qA | exact qB))
      | (go_at_call 131; (with_reducible refine (cut_calls (HN.out _) HM.out HX.out X1).mono ?_); rintro e w' ⟨rfl, ⟨nd, rfl⟩⟩; (try first | exact qA | exact qB))
      | (go_at_call 131; (with_reducible refine (cut_calls HB.out HM.out HY.out Y1).mono ?_); rintro e w' ⟨rfl, ⟨nd, rfl⟩⟩; (try first | exact qA | exact qB))
      | (go_at_call 131; (with_reducible refine (cut_calls (HN.out _) HM.out HY.out Y1).mono ?_); rintro e w' ⟨rfl, ⟨nd, rfl⟩⟩; (try first | exact qA | exact qB))
      )
    go_ret
    exact ⟨by rw [E1.out] <;> first | rfl | (simp; done), by repeat (first | exact Drawn0.refl _ | apply Drawn0.step)⟩
end Go.Proofs.YtndkmnjbjlfeaaaGreat.Mont
end
