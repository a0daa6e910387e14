/- Parts of this claim's texts, packed by wip/tools/prune.py: what the proof does not reach is left out. -/
import Derived.Test.YtcphlhphdpjnfaaZP11
section
namespace Go.Proofs.Ytcphlhphdpjnfaa.XT
open Go.RowKit Go.Proofs.Ytcphlhphdpjnfaa.Given Go.Proofs.Ytcphlhphdpjnfaa.Given05 Go.Proofs.Ytcphlhphdpjnfaa.XS Go.Proofs.Ytcphlhphdpjnfaa.Given04 Go.Proofs.Ytcphlhphdpjnfaa.Row05 Go.Proofs.YtcphlhphdpjnfaaW.PrintWords Go.Proofs.YtcphlhphdpjnfaaW.PrintLast Go.Proofs.YtcphlhphdpjnfaaW.PrintMore
attribute [local go_sem] max2_int min2_int max_two min_two max_three min_three max_four min_four   -- for this text's walks alone
set_option linter.unusedVariables false
set_option linter.unusedSimpArgs false
def epicyclelaw05_SieveProves.f (k : Nat) (a0 : Int) : Option (Bool) := (epicyclelaw05_alive.f k).bind fun t142 => (if t142 = true then ((sieve_Row.f k a0).bind fun bt143 => ((epicycleref05_Odd.f k a0).bind fun t147 => (if t147 = true then ((proof_Check.f k bt143.1).bind fun bt148 => ((proof_Claim.f k bt143.1 a0).bind fun bt150 => (if bt143.2 = 0 then (if bt148.2 = 0 then (if bt150.2.2.2 = true then (if (bt143.1.length : Int) > 0 then (if 0 ≤ (wrap64 ((bt143.1.length : Int) - 1)) then (if (wrap64 ((bt143.1.length : Int) - 1)) < (bt143.1.length : Int) then (if ((rd_T45 bt143.1 (wrap64 ((bt143.1.length : Int) - 1))).f0) = a0 then ((sieve_Generator.f k a0).bind fun t158 => (some (bt150.2.1 == t158))) else (some false)) else (none)) else (none)) else (some false)) else (some false)) else (some false)) else (some false)))) else (some (bt143.2 == 1))))) else (some false))
def epicyclelaw05_SieveProves.T8 : Bool × List (List Nat × List Nat) := (true, [([], []), ([0], [0]), ([1], [1]), ([2], [2]), ([3, 2], [2, 3]), ([2, 4], [2, 4]), ([5, 2], [5]), ([6], [6]), ([6, 7], [6, 7]), ([8, 6], [8]), ([9], [9]), ([10, 9], [9, 10]), ([11, 9], [9, 11]), ([9, 12], [9, 12]), ([13, 9], [13]), ([14], [14]), ([14], [14]), ([16, 14], [14, 16]), ([17, 14], [14, 17]), ([15, 18, 14], [14, 15, 18]), ([19, 14], [14, 19]), ([20, 14], [14, 20]), ([14], [14]), ([21, 22, 14], [14, 21, 22]), ([14, 23], [14, 23]), ([24, 14], [24]), ([25], [25]), ([26, 25], [25, 26]), ([25], [25]), ([28, 25, 25], [25, 28]), ([27, 29, 25], [25, 27, 29]), ([25, 30], [25, 30]), ([31, 29, 0, 1, 2, 3, 4, 5, 6, 7, 8, 9, 10, 11, 12, 13, 14, 15, 16, 17, 18, 19, 20, 21, 22, 23, 24, 25, 26, 27, 28, 29, 30, 31], [31])])
def epicyclelaw05_SieveProves.B8 : List Nat := [0, 1, 3, 7, 15, 31, 63, 127, 255, 511, 1023, 2047, 4095, 8191, 16383, 32767, 32767, 98303, 229375, 524287, 1048575, 2097151, 32767, 8388607, 16777215, 33554431, 67108863, 134217727, 67108863, 335544319, 1073741823, 2147483647, 4294967295]
theorem epicyclelaw05_SieveProves.tab8 : rtab .any (opsOf Try.f7 8) = epicyclelaw05_SieveProves.T8 := by kernel_rfl
theorem epicyclelaw05_SieveProves.bits8 : waitsOk epicyclelaw05_SieveProves.T8.2 epicyclelaw05_SieveProves.B8 = true := by kernel_rfl
set_option maxHeartbeats 8000000 in
set_option maxRecDepth 100000 in
theorem epicyclelaw05_SieveProves.calls (k : Nat) (a0 : Int) (w : World) (h : epicyclelaw05_SieveProves.f k a0 = some true) :
    Calls Try.prog 7 #[.int .u64 a0] w fun e w' => e = .returned (.bool true) ∧ Below w.heap.size w w' := by
  have hu45 := Try.underlying45
  have HB := Aside0.mk (Below.refl w.heap.size w)
  have H : ((epicyclelaw05_alive.f k).bind fun t142 => (if t142 = true then ((sieve_Row.f k a0).bind fun bt143 => ((epicycleref05_Odd.f k a0).bind fun t147 => (if t147 = true then ((proof_Check.f k bt143.1).bind fun bt148 => ((proof_Claim.f k bt143.1 a0).bind fun bt150 => (if bt143.2 = 0 then (if bt148.2 = 0 then (if bt150.2.2.2 = true then (if (bt143.1.length : Int) > 0 then (if 0 ≤ (wrap64 ((bt143.1.length : Int) - 1)) then (if (wrap64 ((bt143.1.length : Int) - 1)) < (bt143.1.length : Int) then (if ((rd_T45 bt143.1 (wrap64 ((bt143.1.length : Int) - 1))).f0) = a0 then ((sieve_Generator.f k a0).bind fun t158 => (some (bt150.2.1 == t158))) else (some false)) else (none)) else (none)) else (some false)) else (some false)) else (some false)) else (some false)))) else (some (bt143.2 == 1))))) else (some false))) = some true := h
  clear h
  replace H := Option.bind_eq_some_iff.mp H
  obtain ⟨t142, A20, H⟩ := H
  replace H : (if t142 = true then ((sieve_Row.f k a0).bind fun bt143 => ((epicycleref05_Odd.f k a0).bind fun t147 => (if t147 = true then ((proof_Check.f k bt143.1).bind fun bt148 => ((proof_Claim.f k bt143.1 a0).bind fun bt150 => (if bt143.2 = 0 then (if bt148.2 = 0 then (if bt150.2.2.2 = true then (if (bt143.1.length : Int) > 0 then (if 0 ≤ (wrap64 ((bt143.1.length : Int) - 1)) then (if (wrap64 ((bt143.1.length : Int) - 1)) < (bt143.1.length : Int) then (if ((rd_T45 bt143.1 (wrap64 ((bt143.1.length : Int) - 1))).f0) = a0 then ((sieve_Generator.f k a0).bind fun t158 => (some (bt150.2.1 == t158))) else (some false)) else (none)) else (none)) else (some false)) else (some false)) else (some false)) else (some false)))) else (some (bt143.2 == 1))))) else (some false)) = some true := H
  have A2 := Aside0.mk A20
  clear A20
  by_cases c3 : t142 = true
  · subst c3
    have H1 : ((sieve_Row.f k a0).bind fun bt143 => ((epicycleref05_Odd.f k a0).bind fun t147 => (if t147 = true then ((proof_Check.f k bt143.1).bind fun bt148 => ((proof_Claim.f k bt143.1 a0).bind fun bt150 => (if bt143.2 = 0 then (if bt148.2 = 0 then (if bt150.2.2.2 = true then (if (bt143.1.length : Int) > 0 then (if 0 ≤ (wrap64 ((bt143.1.length : Int) - 1)) then (if (wrap64 ((bt143.1.length : Int) - 1)) < (bt143.1.length : Int) then (if ((rd_T45 bt143.1 (wrap64 ((bt143.1.length : Int) - 1))).f0) = a0 then ((sieve_Generator.f k a0).bind fun t158 => (some (bt150.2.1 == t158))) else (some false)) else (none)) else (none)) else (some false)) else (some false)) else (some false)) else (some false)))) else (some (bt143.2 == 1))))) = some true := by rw [if_pos rfl] at H <;> exact H
    clear H
    have H := H1
    clear H1
    replace H := Option.bind_eq_some_iff.mp H
    obtain ⟨⟨t143, t144⟩, A40, H⟩ := H
    replace H : ((epicycleref05_Odd.f k a0).bind fun t147 => (if t147 = true then ((proof_Check.f k t143).bind fun bt148 => ((proof_Claim.f k t143 a0).bind fun bt150 => (if t144 = 0 then (if bt148.2 = 0 then (if bt150.2.2.2 = true then (if (t143.length : Int) > 0 then (if 0 ≤ (wrap64 ((t143.length : Int) - 1)) then (if (wrap64 ((t143.length : Int) - 1)) < (t143.length : Int) then (if ((rd_T45 t143 (wrap64 ((t143.length : Int) - 1))).f0) = a0 then ((sieve_Generator.f k a0).bind fun t158 => (some (bt150.2.1 == t158))) else (some false)) else (none)) else (none)) else (some false)) else (some false)) else (some false)) else (some false)))) else (some (t144 == 1)))) = some true := H
    have A4 := Aside0.mk A40
    clear A40
    replace H := Option.bind_eq_some_iff.mp H
    obtain ⟨t147, A50, H⟩ := H
    replace H : (if t147 = true then ((proof_Check.f k t143).bind fun bt148 => ((proof_Claim.f k t143 a0).bind fun bt150 => (if t144 = 0 then (if bt148.2 = 0 then (if bt150.2.2.2 = true then (if (t143.length : Int) > 0 then (if 0 ≤ (wrap64 ((t143.length : Int) - 1)) then (if (wrap64 ((t143.length : Int) - 1)) < (t143.length : Int) then (if ((rd_T45 t143 (wrap64 ((t143.length : Int) - 1))).f0) = a0 then ((sieve_Generator.f k a0).bind fun t158 => (some (bt150.2.1 == t158))) else (some false)) else (none)) else (none)) else (some false)) else (some false)) else (some false)) else (some false)))) else (some (t144 == 1))) = some true := H
    have A5 := Aside0.mk A50
    clear A50
    by_cases c6 : t147 = true
    · subst c6
      have H1 : ((proof_Check.f k t143).bind fun bt148 => ((proof_Claim.f k t143 a0).bind fun bt150 => (if t144 = 0 then (if bt148.2 = 0 then (if bt150.2.2.2 = true then (if (t143.length : Int) > 0 then (if 0 ≤ (wrap64 ((t143.length : Int) - 1)) then (if (wrap64 ((t143.length : Int) - 1)) < (t143.length : Int) then (if ((rd_T45 t143 (wrap64 ((t143.length : Int) - 1))).f0) = a0 then ((sieve_Generator.f k a0).bind fun t158 => (some (bt150.2.1 == t158))) else (some false)) else (none)) else (none)) else (some false)) else (some false)) else (some false)) else (some false)))) = some true := by rw [if_pos rfl] at H <;> exact H
      clear H
      have H := H1
      clear H1
      replace H := Option.bind_eq_some_iff.mp H
      obtain ⟨⟨t148, t149⟩, A70, H⟩ := H
      replace H : ((proof_Claim.f k t143 a0).bind fun bt150 => (if t144 = 0 then (if t149 = 0 then (if bt150.2.2.2 = true then (if (t143.length : Int) > 0 then (if 0 ≤ (wrap64 ((t143.length : Int) - 1)) then (if (wrap64 ((t143.length : Int) - 1)) < (t143.length : Int) then (if ((rd_T45 t143 (wrap64 ((t143.length : Int) - 1))).f0) = a0 then ((sieve_Generator.f k a0).bind fun t158 => (some (bt150.2.1 == t158))) else (some false)) else (none)) else (none)) else (some false)) else (some false)) else (some false)) else (some false))) = some true := H
      have A7 := Aside0.mk A70
      clear A70
      replace H := Option.bind_eq_some_iff.mp H
      obtain ⟨⟨t150, t151, t152, t155⟩, A80, H⟩ := H
      replace H : (if t144 = 0 then (if t149 = 0 then (if t155 = true then (if (t143.length : Int) > 0 then (if 0 ≤ (wrap64 ((t143.length : Int) - 1)) then (if (wrap64 ((t143.length : Int) - 1)) < (t143.length : Int) then (if ((rd_T45 t143 (wrap64 ((t143.length : Int) - 1))).f0) = a0 then ((sieve_Generator.f k a0).bind fun t158 => (some (t151 == t158))) else (some false)) else (none)) else (none)) else (some false)) else (some false)) else (some false)) else (some false)) = some true := H
      have A8 := Aside0.mk A80
      clear A80
      by_cases c9 : t144 = 0
      · rw [if_pos c9] at H
        have c9b0 : (t144 == 0) = true := beq_iff_eq.mpr c9
        have c9b1 : (t144 != 0) = false := bne_eq_false_iff_eq.mpr c9
        clear c9
        by_cases c10 : t149 = 0
        · rw [if_pos c10] at H
          have c10b0 : (t149 == 0) = true := beq_iff_eq.mpr c10
          have c10b1 : (t149 != 0) = false := bne_eq_false_iff_eq.mpr c10
          clear c10
          by_cases c11 : t155 = true
          · subst c11
            have H1 : (if (t143.length : Int) > 0 then (if 0 ≤ (wrap64 ((t143.length : Int) - 1)) then (if (wrap64 ((t143.length : Int) - 1)) < (t143.length : Int) then (if ((rd_T45 t143 (wrap64 ((t143.length : Int) - 1))).f0) = a0 then ((sieve_Generator.f k a0).bind fun t158 => (some (t151 == t158))) else (some false)) else (none)) else (none)) else (some false)) = some true := by rw [if_pos rfl] at H <;> exact H
            clear H
            have H := H1
            clear H1
            by_cases c12 : (t143.length : Int) > 0
            · rw [if_pos c12] at H
              have c12b0 : decide (0 < (t143.length : Int)) = true := decide_eq_true c12
              have c12b1 : decide (0 < t143.length) = true := decide_eq_true (by omega)
              clear c12
              obtain ⟨ji13, hji13⟩ : ∃ j_ : Int, (wrap64 ((t143.length : Int) - 1)) = j_ := ⟨_, rfl⟩
              replace H : (if 0 ≤ (ji13) then (if (ji13) < (t143.length : Int) then (if ((rd_T45 t143 (ji13)).f0) = a0 then ((sieve_Generator.f k a0).bind fun t158 => (some (t151 == t158))) else (some false)) else (none)) else (none)) = some true := by first | (rw [hji13] at H <;> exact H) | (simp only [hji13] at H ⊢; exact H)
              (try rw [hji13] at A2)
              (try rw [hji13] at A4)
              (try rw [hji13] at A5)
              (try rw [hji13] at A7)
              (try rw [hji13] at A8)
              have hji13w : (IntKind.i64.wrap ((t143.length : Int) - 1)) = ji13 := (i64_w _).trans hji13
              by_cases c14 : 0 ≤ (ji13)
              · rw [if_pos c14] at H
                have c14b0 : decide (0 ≤ (ji13)) = true := decide_eq_true c14
                clear c14
                by_cases c15 : (ji13) < (t143.length : Int)
                · rw [if_pos c15] at H
                  have c15b0 : decide ((ji13) < (t143.length : Int)) = true := decide_eq_true c15
                  clear c15
                  by_cases c16 : ((rd_T45 t143 (ji13)).f0) = a0
                  · rw [if_pos c16] at H
                    have c16b0 : (((rd_T45 t143 (ji13)).f0) == a0) = true := beq_iff_eq.mpr c16
                    have c16b1 : (((rd_T45 t143 (ji13)).f0) != a0) = false := bne_eq_false_iff_eq.mpr c16
                    clear c16
                    replace H := Option.bind_eq_some_iff.mp H
                    obtain ⟨t158, A170, H⟩ := H
                    replace H : (some (t151 == t158)) = some true := H
                    have A17 := Aside0.mk A170
                    clear A170
                    have hR_ := Option.some.inj H
                    go_enter Try.func7, Try.ntmps7
                    try go_wp2_with (first | ((with_reducible refine gate_callee (f := 8) rfl ?_); refine goesL_ (some 9) rfl rfl Try.func8 (by kernel_rfl) rfl #[] rfl (by (try simp only [List.map_toArray, List.map_cons, List.map_nil]); first | done | rfl | (simp only [List.length_drop, List.length_take]; rfl)) ?_; (with_reducible refine (epicyclelaw05_alive.calls k  true _ A2.out).mono ?_); rintro e w18 ⟨rfl, hb⟩; refine ⟨_, rfl, ?_⟩; have n0_ := Aside0.mk (below_step (by repeat (first | (with_reducible first | exact HB.out | apply below_alloc | apply pw_below_drewN | apply below_drew1) | exact HB.out)) hb); clear HB; have HB := n0_; clear n0_; (try clear hb); (try clear hb2); (try clear hk); (try clear hi)) | ((with_reducible refine gate_callee (f := 17) rfl ?_); refine goesL_ (some 13) rfl rfl Try.func17 (by kernel_rfl) rfl #[.int .u64 a0] rfl (by (try simp only [List.map_toArray, List.map_cons, List.map_nil]); first | done | rfl | (simp only [List.length_drop, List.length_take]; rfl)) ?_; (with_reducible refine (sieve_Row.calls k a0 t143 t144 _ A4.out).mono ?_); rintro e w19 ⟨v145, rfl, ho0, hb⟩; refine ⟨_, rfl, ?_⟩; have n0_ := Aside0.mk (Kd.S_lower ho0 (below_size (by repeat (first | (with_reducible first | exact HB.out | apply below_alloc | apply pw_below_drewN | apply below_drew1) | exact HB.out)))); have n1_ := Aside0.mk (below_step (by repeat (first | (with_reducible first | exact HB.out | apply below_alloc | apply pw_below_drewN | apply below_drew1) | exact HB.out)) hb); clear HB; have HO146 := n0_; have HB := n1_; clear n0_ n1_; (try clear hb); (try clear hb2); (try clear hk); (try clear hi); (try clear ho0)) | ((with_reducible refine gate_callee (f := 18) rfl ?_); refine goesL_ (some 17) rfl rfl Try.func18 (by kernel_rfl) rfl #[.int .u64 a0] rfl (by (try simp only [List.map_toArray, List.map_cons, List.map_nil]); first | done | rfl | (simp only [List.length_drop, List.length_take]; rfl)) ?_; (with_reducible refine (epicycleref05_Odd.calls k a0 true _ A5.out).mono ?_); rintro e w' ⟨rfl, ⟨nd, rfl⟩⟩; refine ⟨_, rfl, ?_⟩; (try (rw [drewN_self w19]; generalize hq_ : World.drewN w19 _ = w19; have n0_ : Aside0 (Kd.S k45 45 w19 w.heap.size (fun _ => True) v145 t143) := ⟨by rw [← hq_]; exact (by (with_reducible repeat (first | apply Kd.S_alloc | apply Kd.S_drewN | apply Kd.S_drew)); exact HO146.out)⟩; have n1_ : Aside0 (Below w.heap.size w w19) := ⟨by rw [← hq_]; exact (by repeat (first | (with_reducible first | exact HB.out | apply below_alloc | apply pw_below_drewN | apply below_drew1) | exact HB.out))⟩; clear HO146 HB hq_; have HO146 := n0_; have HB := n1_; clear n0_ n1_)); obtain ⟨Ao20, co20, eo20⟩ := Kd.S_slice HO146.out; subst eo20) | ((with_reducible refine gate_callee (f := 20) rfl ?_); refine goesL_ (some 23) rfl rfl Try.func20 (by kernel_rfl) rfl #[.slice Ao20 t143.length co20] rfl (by (try simp only [List.map_toArray, List.map_cons, List.map_nil]); first | done | rfl | (simp only [List.length_drop, List.length_take]; rfl)) ?_; (with_reducible refine (proof_Check.calls k _ _ t143 t148 t149 _ ?side1 ?side2 A7.out).mono ?_); (case side1 => repeat (first | exact (Kd.S_reads' HO146.out).2.2 | (with_reducible refine Kd.C_alloc ?_ _) | (with_reducible refine Kd.C_drewN ?_ _) | (with_reducible refine Kd.C_drew ?_))); (case side2 => exact (Kd.S_reads' HO146.out).2.1); rintro e w21 ⟨rfl, hb⟩; refine ⟨_, rfl, ?_⟩; have n0_ := Aside0.mk (Kd.S_below (by (with_reducible repeat (first | apply Kd.S_alloc | apply Kd.S_drewN | apply Kd.S_drew)); exact HO146.out) hb); have n1_ := Aside0.mk (below_step (by repeat (first | (with_reducible first | exact HB.out | apply below_alloc | apply pw_below_drewN | apply below_drew1) | exact HB.out)) hb); clear HO146; clear HB; have HO146 := n0_; have HB := n1_; clear n0_ n1_; (try clear hb); (try clear hb2); (try clear hk); (try clear hi)) | ((with_reducible refine gate_callee (f := 21) rfl ?_); refine goesL_ (some 29) rfl rfl Try.func21 (by kernel_rfl) rfl #[.slice Ao20 t143.length co20, .int .u64 a0] rfl (by (try simp only [List.map_toArray, List.map_cons, List.map_nil]); first | done | rfl | (simp only [List.length_drop, List.length_take]; rfl)) ?_; (with_reducible refine (proof_Claim.calls k _ _ t143 a0 t150 t151 t152 true _ ?side1 ?side2 A8.out).mono ?_); (case side1 => repeat (first | exact (Kd.S_reads' HO146.out).2.2 | (with_reducible refine Kd.C_alloc ?_ _) | (with_reducible refine Kd.C_drewN ?_ _) | (with_reducible refine Kd.C_drew ?_))); (case side2 => exact (Kd.S_reads' HO146.out).2.1); rintro e w22 ⟨v153, rfl, ho0, hb⟩; refine ⟨_, rfl, ?_⟩; have n0_ := Aside0.mk (Kd.S_elder' (by (with_reducible repeat (first | apply Kd.S_alloc | apply Kd.S_drewN | apply Kd.S_drew)); exact HO146.out) (Kd.R_base ho0) hb); have n1_ := Aside0.mk (Kd.R_lower ho0 (below_size (by repeat (first | (with_reducible first | exact HB.out | apply below_alloc | apply pw_below_drewN | apply below_drew1) | exact HB.out)))); have n2_ := Aside0.mk (below_step (by repeat (first | (with_reducible first | exact HB.out | apply below_alloc | apply pw_below_drewN | apply below_drew1) | exact HB.out)) hb); clear HO146; clear HB; have HO146 := n0_; have HO154 := n1_; have HB := n2_; clear n0_ n1_ n2_; (try clear hb); (try clear hb2); (try clear hk); (try clear hi); (try clear ho0)) | ((with_reducible refine gate_dst (N := 7) rfl ?_); (try (refine gate_guard (by rfl) ?_; dsimp only)); refine box_event ?hg (N := 7) ?hd (cs := #[.int .u64 0, .int .u64 0, .slice none 0 0]) (t := 45) ?hr ?_; (case hd => rfl); (case hg => rfl); (case hr => first | (go_simp; done) | (go_simp; rfl)); intro gb156 hg w23 hbox hb; have n0_ := Aside0.mk (Kd.S_below (Kd.S_elderB (by (with_reducible repeat (first | apply Kd.S_alloc | apply Kd.S_drewN | apply Kd.S_drew)); exact HO146.out) gb156 (Nat.le_of_eq hg.symm)) hb); have n1_ := Aside0.mk (Kd.R_below (by (with_reducible repeat (first | apply Kd.R_alloc | apply Kd.R_drewN | apply Kd.R_drew)); exact HO154.out) hb); have n2_ := Aside0.mk (below_step (by repeat (first | (with_reducible first | exact HB.out | apply below_alloc | apply pw_below_drewN | apply below_drew1) | exact HB.out)) hb); have n3_ := Aside0.mk (hbox); have n4_ := Aside0.mk ((by rw [hg]; exact (below_size (by repeat (first | (with_reducible first | exact HB.out | apply below_alloc | apply pw_below_drewN | apply below_drew1) | exact HB.out))) : w.heap.size ≤ gb156)); have n5_ := Aside0.mk ((by rw [hg]; exact (below_size (by repeat (first | (with_reducible first | exact HB.out | apply below_alloc | apply pw_below_drewN | apply below_drew1) | exact HB.out))) : w.heap.size ≤ gb156)); clear HO146; clear HO154; clear HB; have HO146 := n0_; have HO154 := n1_; have HB := n2_; have BK156 := n3_; have GW156 := n4_; have GE156 := n5_; clear n0_ n1_ n2_ n3_ n4_ n5_; clear hb hbox hg; have hcz24_0 : w23.cell? ⟨gb156, 0, none⟩ = some (.int .u64 0) := (blk_cell BK156.out 0).trans rfl; have hcz24_1 : w23.cell? ⟨gb156, 1, none⟩ = some (.int .u64 0) := (blk_cell BK156.out 1).trans rfl; have hcz24_2 : w23.cell? ⟨gb156, 2, none⟩ = some (.slice none 0 0) := (blk_cell BK156.out 2).trans rfl; have hfz24_0 := blk_frozen BK156.out 0; have hfz24_1 := blk_frozen BK156.out 1; have hfz24_2 := blk_frozen BK156.out 2; obtain ⟨Ao25, co25, eo25⟩ := Kd.R_slice HO154.out; subst eo25))
                    have n0_ : Aside0 (Kd.S k45 45 (((w23.setCell ⟨gb156, 0, none⟩ (.int .u64 t150)).setCell ⟨gb156, 1, none⟩ (.int .u64 t151)).setCell ⟨gb156, 2, none⟩ (.slice Ao25 t152.length co25)) w.heap.size (fun k_ => some k_ ≠ (.slice Ao25 t152.length co25 : Value).ownBlock ∧ k_ ≠ gb156) (.slice Ao20 t143.length co20) t143) := ⟨by (with_reducible repeat (first | apply Kd.S_alloc | apply Kd.S_drewN | apply Kd.S_drew)); exact Kd.S_mono (Kd.S_far (p := ⟨gb156, 2, none⟩) (Kd.S_far (p := ⟨gb156, 1, none⟩) (Kd.S_far (p := ⟨gb156, 0, none⟩) (Kd.S_mono HO146.out (fun k_ hk => (⟨hk, hk.2⟩ : _ ∧ k_ ≠ gb156))) (fun _ hk => hk.2) (.int .u64 t150)) (fun _ hk => hk.2) (.int .u64 t151)) (fun _ hk => hk.2) (.slice Ao25 t152.length co25)) (fun _ hk => ⟨hk.1.1.2, hk.1.2⟩)⟩
                    have n1_ : Aside0 (Kd.R k33 33 (((w23.setCell ⟨gb156, 0, none⟩ (.int .u64 t150)).setCell ⟨gb156, 1, none⟩ (.int .u64 t151)).setCell ⟨gb156, 2, none⟩ (.slice Ao25 t152.length co25)) w.heap.size (fun _ => True) (.slice Ao25 t152.length co25) t152) := ⟨by (with_reducible repeat (first | apply Kd.R_alloc | apply Kd.R_drewN | apply Kd.R_drew)); exact Kd.R_mono (Kd.R_far (p := ⟨gb156, 2, none⟩) (Kd.R_far (p := ⟨gb156, 1, none⟩) (Kd.R_far (p := ⟨gb156, 0, none⟩) (Kd.R_types HO154.out BK156.out (by decide)) (fun _ hk => hk.2) (.int .u64 t150)) (fun _ hk => hk.2) (.int .u64 t151)) (fun _ hk => hk.2) (.slice Ao25 t152.length co25)) (fun _ hk => trivial)⟩
                    have n2_ : Aside0 ((((w23.setCell ⟨gb156, 0, none⟩ (.int .u64 t150)).setCell ⟨gb156, 1, none⟩ (.int .u64 t151)).setCell ⟨gb156, 2, none⟩ (.slice Ao25 t152.length co25)).heap[gb156]? = some (.cells #[.int .u64 t150, .int .u64 t151, .slice Ao25 t152.length co25] 45 (0, 0))) := ⟨by (with_reducible repeat (first | refine blk_drewN ?_ _ | refine blk_drew ?_ | refine blk_alloc ?_ _)); refine blk_put (cs := #[.int .u64 t150, .int .u64 t151, .slice none 0 0]) ?_ 2 _ rfl; (with_reducible repeat (first | refine blk_drewN ?_ _ | refine blk_drew ?_ | refine blk_alloc ?_ _)); refine blk_put (cs := #[.int .u64 t150, .int .u64 0, .slice none 0 0]) ?_ 1 _ rfl; (with_reducible repeat (first | refine blk_drewN ?_ _ | refine blk_drew ?_ | refine blk_alloc ?_ _)); refine blk_put (cs := #[.int .u64 0, .int .u64 0, .slice none 0 0]) ?_ 0 _ rfl; (with_reducible repeat (first | refine blk_drewN ?_ _ | refine blk_drew ?_ | refine blk_alloc ?_ _)); exact BK156.out⟩
                    have n3_ : Aside0 (Below w.heap.size w (((w23.setCell ⟨gb156, 0, none⟩ (.int .u64 t150)).setCell ⟨gb156, 1, none⟩ (.int .u64 t151)).setCell ⟨gb156, 2, none⟩ (.slice Ao25 t152.length co25))) := ⟨by repeat (first | (with_reducible first | exact HB.out | apply below_alloc | apply pw_below_drewN | apply below_drew1 | refine below_set ?_ GE156.out) | exact HB.out)⟩
                    (try clear HO146)
                    (try clear HO154)
                    (try clear BK156)
                    (try clear HB)
                    generalize (((w23.setCell ⟨gb156, 0, none⟩ (.int .u64 t150)).setCell ⟨gb156, 1, none⟩ (.int .u64 t151)).setCell ⟨gb156, 2, none⟩ (.slice Ao25 t152.length co25)) = w26 at n0_ n1_ n2_ n3_ ⊢
                    have HO146 := n0_
                    have HO154 := n1_
                    have BK156 := n2_
                    have HB := n3_
                    clear n0_ n1_ n2_ n3_
                    have n0_ := Aside0.mk (Kd.S_drew HO146.out)
                    have n1_ := Aside0.mk (Kd.R_drew HO154.out)
                    have n2_ := Aside0.mk (blk_drew BK156.out)
                    have n3_ := Aside0.mk (below_drew1 HB.out)
                    clear HO146
                    clear HO154
                    clear BK156
                    clear HB
                    have HO146 := n0_
                    have HO154 := n1_
                    have BK156 := n2_
                    have HB := n3_
                    clear n0_ n1_ n2_ n3_
                    have p157 : 0 ≤ ((ji13) : Int) := of_decide_eq_true (by first | (with_reducible assumption) | assumption)
                    have q157 : (ji13) < (t143.length : Int) := of_decide_eq_true (by first | (with_reducible assumption) | assumption)
                    obtain ⟨ad157, A157_2, c157_2, e157, hx157_0, hx157_1, hx157_2, hl157_2, hi157_2⟩ := at_T45 (Kd.S_reads' HO146.out).2.2 (ji13) p157 q157
                    cases e157
                    obtain ⟨ce157, hce157, hMe157, hcc157⟩ := Kd.S_get HO146.out z45 (ji13) p157 (by first | exact q157 | exact of_decide_eq_true (by first | (with_reducible assumption) | assumption) | (have e_ := (Kd.S_reads' HO146.out).1; omega))
                    obtain ⟨ve157_2, rfl, ge157_2⟩ := k45_openM hMe157
                    have hv157_2 := hcc157 2 _ rfl
                    rw [add_field _ _ 2 (by omega)] at hv157_2
                    replace hv157_2 := Option.some.inj (hv157_2.symm.trans hx157_2)
                    rw [hv157_2] at ge157_2
                    have HL157_2 := Aside0.mk (show Kd.R k33 33 _ _ _ _ ((rd_T45 t143 (ji13)).f2) from ge157_2)
                    clear hv157_2 ge157_2
                    clear hcc157 hce157
                    have HR157_2 := Aside0.mk hi157_2
                    have HC157_2 := Aside0.mk hl157_2
                    clear hi157_2 hl157_2
                    replace p157 := eq_true p157
                    replace q157 := eq_true q157
                    refine start_ (n := 33) (S := fun w' => w'.cell? ⟨gb156, 0, none⟩ = some (.int .u64 t150) ∧ w'.cell? ⟨gb156, 1, none⟩ = some (.int .u64 t151) ∧ w'.cell? ⟨gb156, 2, none⟩ = some (.slice Ao25 t152.length co25) ∧ w'.cell? (ad157.add (((ji13)).toNat * 3)) = some (.int .u64 ((rd_T45 t143 (ji13)).f0)) ∧ w'.cell? ⟨(ad157.add (((ji13)).toNat * 3)).block, (ad157.add (((ji13)).toNat * 3)).off + 1, none⟩ = some (.int .u64 ((rd_T45 t143 (ji13)).f1)) ∧ w'.cell? ⟨(ad157.add (((ji13)).toNat * 3)).block, (ad157.add (((ji13)).toNat * 3)).off + 2, none⟩ = some (.slice A157_2 ((rd_T45 t143 (ji13)).f2).length c157_2)) (ds := []) #[false, false, false, false, false, false, false, false, false, false, false, false, false, false, false, false, false, false, false, false, false, false, false, false, false, false, false, false, false, false, false, false, false] (by kernel_rfl) rfl rfl ⟨(blk_cell BK156.out 0).trans rfl, (blk_cell BK156.out 1).trans rfl, (blk_cell BK156.out 2).trans rfl, hx157_0, hx157_1, hx157_2⟩ (fun hHeld => ?_); refine with_tabW epicyclelaw05_SieveProves.tab8 epicyclelaw05_SieveProves.bits8 (fun HT_ HW_ => ?_)
                    generalize w26.drew = w27 at HO146 HO154 BK156 HB HL157_2 HR157_2 hx157_0 hx157_1 hx157_2 hHeld ⊢
                    refine pure_ (i := 0) (N := some 32) (v := ?_) (a' := ?_) #[true, false, false, false, false, false, false, false, false, false, false, false, false, false, false, false, false, false, false, false, false, false, false, false, false, false, false, false, false, false, false, false, false] rfl rfl (any_of HT_.out (by kernel_rfl)) (fun _ _ _ h => h) (Or.inl ⟨by rfl, ?_⟩) ?_ ?_
                    rotate_left
                    · intro w'
                      go_simp
                      with_reducible rfl
                    rotate_left
                    · simp only [Act.put, List.setIfInBounds_toArray, List.set_cons_zero, List.set_cons_succ, i64_w, i32_w]
                      rfl
                    refine pure_ (i := 1) (N := some 33) (v := ?_) (a' := ?_) #[true, true, false, false, false, false, false, false, false, false, false, false, false, false, false, false, false, false, false, false, false, false, false, false, false, false, false, false, false, false, false, false, false] rfl rfl (any_of HT_.out (by kernel_rfl)) (fun _ _ _ h => h) (Or.inl ⟨by rfl, ?_⟩) ?_ ?_
                    rotate_left
                    · intro w'
                      go_simp
                      with_reducible rfl
                    rotate_left
                    · simp only [Act.put, List.setIfInBounds_toArray, List.set_cons_zero, List.set_cons_succ, i64_w, i32_w]
                      rfl
                    refine pure_ (i := 2) (N := some 34) (v := ?_) (a' := ?_) #[true, true, true, false, false, false, false, false, false, false, false, false, false, false, false, false, false, false, false, false, false, false, false, false, false, false, false, false, false, false, false, false, false] rfl rfl (any_of HT_.out (by kernel_rfl)) (fun _ _ _ h => h) (Or.inl ⟨by rfl, ?_⟩) ?_ ?_
                    rotate_left
                    · intro w'
                      go_simp
                      with_reducible rfl
                    rotate_left
                    · simp only [Act.put, List.setIfInBounds_toArray, List.set_cons_zero, List.set_cons_succ, i64_w, i32_w]
                      rfl
                    refine pure_ (i := 3) (N := some 35) (v := ?_) (a' := ?_) #[true, true, true, true, false, false, false, false, false, false, false, false, false, false, false, false, false, false, false, false, false, false, false, false, false, false, false, false, false, false, false, false, false] rfl rfl (any_of HT_.out (by kernel_rfl)) (fun _ _ _ h => h) (Or.inl ⟨by rfl, ?_⟩) ?_ ?_
                    rotate_left
                    · intro w'
                      go_simp
                      with_reducible rfl
                    rotate_left
                    · simp only [Act.put, List.setIfInBounds_toArray, List.set_cons_zero, List.set_cons_succ, i64_w, i32_w]
                      rfl
                    refine pure_ (i := 4) (N := some 36) (v := ?_) (a' := ?_) #[true, true, true, true, true, false, false, false, false, false, false, false, false, false, false, false, false, false, false, false, false, false, false, false, false, false, false, false, false, false, false, false, false] rfl rfl (any_of HT_.out (by kernel_rfl)) (fun _ _ _ h => h) (Or.inl ⟨by rfl, ?_⟩) ?_ ?_
                    rotate_left
                    · intro w'
                      go_simp
                      with_reducible rfl
                    rotate_left
                    · simp only [Act.put, List.setIfInBounds_toArray, List.set_cons_zero, List.set_cons_succ, i64_w, i32_w]
                      rfl
                    refine pure_ (i := 5) (N := some 37) (v := ?_) (a' := ?_) #[true, true, true, true, true, true, false, false, false, false, false, false, false, false, false, false, false, false, false, false, false, false, false, false, false, false, false, false, false, false, false, false, false] rfl rfl (any_of HT_.out (by kernel_rfl)) (fun _ _ _ h => h) (Or.inl ⟨by rfl, ?_⟩) ?_ ?_
                    rotate_left
                    · intro w'
                      go_simp
                      with_reducible rfl
                    rotate_left
                    · simp only [Act.put, List.setIfInBounds_toArray, List.set_cons_zero, List.set_cons_succ, i64_w, i32_w]
                      rfl
                    refine pure_ (i := 6) (N := some 38) (v := ?_) (a' := ?_) #[true, true, true, true, true, true, true, false, false, false, false, false, false, false, false, false, false, false, false, false, false, false, false, false, false, false, false, false, false, false, false, false, false] rfl rfl (any_of HT_.out (by kernel_rfl)) (fun _ _ _ h => h) (Or.inl ⟨by rfl, ?_⟩) ?_ ?_
                    rotate_left
                    · intro w'
                      go_simp
                      with_reducible rfl
                    rotate_left
                    · simp only [Act.put, List.setIfInBounds_toArray, List.set_cons_zero, List.set_cons_succ, i64_w, i32_w]
                      rfl
                    refine pure_ (i := 7) (N := some 39) (v := ?_) (a' := ?_) #[true, true, true, true, true, true, true, true, false, false, false, false, false, false, false, false, false, false, false, false, false, false, false, false, false, false, false, false, false, false, false, false, false] rfl rfl (any_of HT_.out (by kernel_rfl)) (fun _ _ _ h => h) (Or.inl ⟨by rfl, ?_⟩) ?_ ?_
                    rotate_left
                    · intro w'
                      go_simp
                      with_reducible rfl
                    rotate_left
                    · simp only [Act.put, List.setIfInBounds_toArray, List.set_cons_zero, List.set_cons_succ, i64_w, i32_w]
                      rfl
                    refine pure_ (i := 8) (N := some 40) (v := ?_) (a' := ?_) #[true, true, true, true, true, true, true, true, true, false, false, false, false, false, false, false, false, false, false, false, false, false, false, false, false, false, false, false, false, false, false, false, false] rfl rfl (any_of HT_.out (by kernel_rfl)) (fun _ _ _ h => h) (Or.inl ⟨by rfl, ?_⟩) ?_ ?_
                    rotate_left
                    · intro w'
                      go_simp
                      with_reducible rfl
                    rotate_left
                    · simp only [Act.put, List.setIfInBounds_toArray, List.set_cons_zero, List.set_cons_succ, i64_w, i32_w]
                      rfl
                    refine pure_ (i := 9) (N := some 41) (v := ?_) (a' := ?_) #[true, true, true, true, true, true, true, true, true, true, false, false, false, false, false, false, false, false, false, false, false, false, false, false, false, false, false, false, false, false, false, false, false] rfl rfl (any_of HT_.out (by kernel_rfl)) (fun _ _ _ h => h) (Or.inl ⟨by rfl, ?_⟩) ?_ ?_
                    rotate_left
                    · intro w'
                      go_simp
                      with_reducible rfl
                    rotate_left
                    · simp only [Act.put, List.setIfInBounds_toArray, List.set_cons_zero, List.set_cons_succ, i64_w, i32_w]
                      rfl
                    refine pure_ (i := 10) (N := some 42) (v := ?_) (a' := ?_) #[true, true, true, true, true, true, true, true, true, true, true, false, false, false, false, false, false, false, false, false, false, false, false, false, false, false, false, false, false, false, false, false, false] rfl rfl (any_of HT_.out (by kernel_rfl)) (fun _ _ _ h => h) (Or.inl ⟨by rfl, ?_⟩) ?_ ?_
                    rotate_left
                    · intro w'
                      go_simp
                      with_reducible rfl
                    rotate_left
                    · simp only [Act.put, List.setIfInBounds_toArray, List.set_cons_zero, List.set_cons_succ, i64_w, i32_w]
                      rfl
                    refine pure_ (i := 11) (N := some 43) (v := ?_) (a' := ?_) #[true, true, true, true, true, true, true, true, true, true, true, true, false, false, false, false, false, false, false, false, false, false, false, false, false, false, false, false, false, false, false, false, false] rfl rfl (any_of HT_.out (by kernel_rfl)) (fun _ _ _ h => h) (Or.inl ⟨by rfl, ?_⟩) ?_ ?_
                    rotate_left
                    · intro w'
                      go_simp
                      with_reducible rfl
                    rotate_left
                    · simp only [Act.put, List.setIfInBounds_toArray, List.set_cons_zero, List.set_cons_succ, i64_w, i32_w]
                      rfl
                    refine pure_ (i := 12) (N := some 44) (v := ?_) (a' := ?_) #[true, true, true, true, true, true, true, true, true, true, true, true, true, false, false, false, false, false, false, false, false, false, false, false, false, false, false, false, false, false, false, false, false] rfl rfl (any_of HT_.out (by kernel_rfl)) (fun _ _ _ h => h) (Or.inl ⟨by rfl, ?_⟩) ?_ ?_
                    rotate_left
                    · intro w'
                      go_simp
                      with_reducible rfl
                    rotate_left
                    · simp only [Act.put, List.setIfInBounds_toArray, List.set_cons_zero, List.set_cons_succ, i64_w, i32_w]
                      rfl
                    refine pure_ (i := 13) (N := some 45) (v := ?_) (a' := ?_) #[true, true, true, true, true, true, true, true, true, true, true, true, true, true, false, false, false, false, false, false, false, false, false, false, false, false, false, false, false, false, false, false, false] rfl rfl (any_of HT_.out (by kernel_rfl)) (fun _ _ _ h => h) (Or.inl ⟨by rfl, ?_⟩) ?_ ?_
                    rotate_left
                    · intro w'
                      go_simp
                      with_reducible rfl
                    rotate_left
                    · simp only [Act.put, List.setIfInBounds_toArray, List.set_cons_zero, List.set_cons_succ, i64_w, i32_w]
                      rfl
                    refine pure_ (i := 14) (N := some 46) (v := ?_) (a' := ?_) #[true, true, true, true, true, true, true, true, true, true, true, true, true, true, true, false, false, false, false, false, false, false, false, false, false, false, false, false, false, false, false, false, false] rfl rfl (any_of HT_.out (by kernel_rfl)) (fun _ _ _ h => h) (Or.inl ⟨by rfl, ?_⟩) ?_ ?_
                    rotate_left
                    · intro w'
                      go_simp
                      with_reducible rfl
                    rotate_left
                    · simp only [Act.put, List.setIfInBounds_toArray, List.set_cons_zero, List.set_cons_succ, i64_w, i32_w]
                      rfl
                    refine pure_ (i := 15) (N := some 47) (v := ?_) (a' := ?_) #[true, true, true, true, true, true, true, true, true, true, true, true, true, true, true, true, false, false, false, false, false, false, false, false, false, false, false, false, false, false, false, false, false] rfl rfl (any_of HT_.out (by kernel_rfl)) (fun _ _ _ h => h) (Or.inl ⟨by rfl, ?_⟩) ?_ ?_
                    rotate_left
                    · intro w'
                      go_simp
                      with_reducible rfl
                    rotate_left
                    · simp only [Act.put, List.setIfInBounds_toArray, List.set_cons_zero, List.set_cons_succ, i64_w, i32_w]
                      rfl
                    refine pure_ (i := 16) (N := some 48) (v := ?_) (a' := ?_) #[true, true, true, true, true, true, true, true, true, true, true, true, true, true, true, true, true, false, false, false, false, false, false, false, false, false, false, false, false, false, false, false, false] rfl rfl (any_of HT_.out (by kernel_rfl)) (fun _ _ _ h => h) (Or.inl ⟨by rfl, ?_⟩) ?_ ?_
                    rotate_left
                    · intro w'
                      go_simp
                      with_reducible rfl
                    rotate_left
                    · simp only [Act.put, List.setIfInBounds_toArray, List.set_cons_zero, List.set_cons_succ, i64_w, i32_w]
                      rfl
                    refine pure_ (i := 17) (N := some 49) (v := ?_) (a' := ?_) #[true, true, true, true, true, true, true, true, true, true, true, true, true, true, true, true, true, true, false, false, false, false, false, false, false, false, false, false, false, false, false, false, false] rfl rfl (any_of HT_.out (by kernel_rfl)) (fun _ _ _ h => h) (Or.inl ⟨by rfl, ?_⟩) ?_ ?_
                    rotate_left
                    · intro w'
                      go_simp
                      with_reducible rfl
                    rotate_left
                    · simp only [Act.put, List.setIfInBounds_toArray, List.set_cons_zero, List.set_cons_succ, i64_w, i32_w]
                      rfl
                    refine pure_ (i := 18) (N := some 50) (v := ?_) (a' := ?_) #[true, true, true, true, true, true, true, true, true, true, true, true, true, true, true, true, true, true, true, false, false, false, false, false, false, false, false, false, false, false, false, false, false] rfl rfl (any_of HT_.out (by kernel_rfl)) (fun _ _ _ h => h) (Or.inl ⟨by rfl, ?_⟩) ?_ ?_
                    rotate_left
                    · intro w'
                      go_simp
                      with_reducible rfl
                    rotate_left
                    · simp only [Act.put, List.setIfInBounds_toArray, List.set_cons_zero, List.set_cons_succ, i64_w, i32_w]
                      rfl
                    refine pure_ (i := 19) (N := some 51) (v := ?_) (a' := ?_) #[true, true, true, true, true, true, true, true, true, true, true, true, true, true, true, true, true, true, true, true, false, false, false, false, false, false, false, false, false, false, false, false, false] rfl rfl (any_of HT_.out (by kernel_rfl)) (fun _ _ _ h => h) (Or.inl ⟨by rfl, ?_⟩) ?_ ?_
                    rotate_left
                    · intro w'
                      go_simp
                      with_reducible rfl
                    rotate_left
                    · simp only [Act.put, List.setIfInBounds_toArray, List.set_cons_zero, List.set_cons_succ, i64_w, i32_w]
                      rfl
                    refine pure_ (i := 20) (N := some 52) (v := ?_) (a' := ?_) #[true, true, true, true, true, true, true, true, true, true, true, true, true, true, true, true, true, true, true, true, true, false, false, false, false, false, false, false, false, false, false, false, false] rfl rfl (any_of HT_.out (by kernel_rfl)) (fun _ _ _ h => h) (Or.inl ⟨by rfl, ?_⟩) ?_ ?_
                    rotate_left
                    · intro w'
                      go_simp
                      with_reducible rfl
                    rotate_left
                    · simp only [Act.put, List.setIfInBounds_toArray, List.set_cons_zero, List.set_cons_succ, i64_w, i32_w]
                      rfl
                    refine pure_ (i := 22) (N := some 54) (v := ?_) (a' := ?_) #[true, true, true, true, true, true, true, true, true, true, true, true, true, true, true, true, true, true, true, true, true, false, true, false, false, false, false, false, false, false, false, false, false] rfl rfl (any_of HT_.out (by kernel_rfl)) (fun _ _ _ h => h) (Or.inl ⟨by rfl, ?_⟩) ?_ ?_
                    rotate_left
                    · intro w'
                      go_simp
                      with_reducible rfl
                    rotate_left
                    · simp only [Act.put, List.setIfInBounds_toArray, List.set_cons_zero, List.set_cons_succ, i64_w, i32_w]
                      rfl
                    refine take_ (i := 21) (N := some 53) (v := ?_) (a' := ?_) #[true, true, true, true, true, true, true, true, true, true, true, true, true, true, true, true, true, true, true, true, true, true, true, false, false, false, false, false, false, false, false, false, false] rfl rfl (take_ofW HT_.out HW_.out (by kernel_rfl)) (fun _ _ _ h => h) (Or.inl ⟨by rfl, ?_⟩) hHeld ?_ ?_
                    rotate_left
                    · rintro w' ⟨s0, s1, s2, s3, s4, s5⟩
                      go_simp
                      with_reducible rfl
                    rotate_left
                    · simp only [Act.put, List.setIfInBounds_toArray, List.set_cons_zero, List.set_cons_succ, i64_w, i32_w]
                      rfl
                    refine pure_ (i := 23) (N := some 55) (v := ?_) (a' := ?_) #[true, true, true, true, true, true, true, true, true, true, true, true, true, true, true, true, true, true, true, true, true, true, true, true, false, false, false, false, false, false, false, false, false] rfl rfl (any_of HT_.out (by kernel_rfl)) (fun _ _ _ h => h) (Or.inl ⟨by rfl, ?_⟩) ?_ ?_
                    rotate_left
                    · intro w'
                      go_simp
                      with_reducible rfl
                    rotate_left
                    · simp only [Act.put, List.setIfInBounds_toArray, List.set_cons_zero, List.set_cons_succ, i64_w, i32_w]
                      rfl
                    refine pure_ (i := 24) (N := some 56) (v := ?_) (a' := ?_) #[true, true, true, true, true, true, true, true, true, true, true, true, true, true, true, true, true, true, true, true, true, true, true, true, true, false, false, false, false, false, false, false, false] rfl rfl (any_of HT_.out (by kernel_rfl)) (fun _ _ _ h => h) (Or.inl ⟨by rfl, ?_⟩) ?_ ?_
                    rotate_left
                    · intro w'
                      go_simp
                      with_reducible rfl
                    rotate_left
                    · simp only [Act.put, List.setIfInBounds_toArray, List.set_cons_zero, List.set_cons_succ, i64_w, i32_w]
                      rfl
                    refine pure_ (i := 25) (N := some 57) (v := ?_) (a' := ?_) #[true, true, true, true, true, true, true, true, true, true, true, true, true, true, true, true, true, true, true, true, true, true, true, true, true, true, false, false, false, false, false, false, false] rfl rfl (any_of HT_.out (by kernel_rfl)) (fun _ _ _ h => h) (Or.inl ⟨by rfl, ?_⟩) ?_ ?_
                    rotate_left
                    · intro w'
                      go_simp
                      with_reducible rfl
                    rotate_left
                    · simp only [Act.put, List.setIfInBounds_toArray, List.set_cons_zero, List.set_cons_succ, i64_w, i32_w]
                      rfl
                    refine pure_ (i := 26) (N := some 58) (v := ?_) (a' := ?_) #[true, true, true, true, true, true, true, true, true, true, true, true, true, true, true, true, true, true, true, true, true, true, true, true, true, true, true, false, false, false, false, false, false] rfl rfl (any_of HT_.out (by kernel_rfl)) (fun _ _ _ h => h) (Or.inl ⟨by rfl, ?_⟩) ?_ ?_
                    rotate_left
                    · intro w'
                      go_simp
                      with_reducible rfl
                    rotate_left
                    · simp only [Act.put, List.setIfInBounds_toArray, List.set_cons_zero, List.set_cons_succ, i64_w, i32_w]
                      rfl
                    refine pure_ (i := 28) (N := some 60) (v := ?_) (a' := ?_) #[true, true, true, true, true, true, true, true, true, true, true, true, true, true, true, true, true, true, true, true, true, true, true, true, true, true, true, false, true, false, false, false, false] rfl rfl (any_of HT_.out (by kernel_rfl)) (fun _ _ _ h => h) (Or.inl ⟨by rfl, ?_⟩) ?_ ?_
                    rotate_left
                    · intro w'
                      go_simp
                      with_reducible rfl
                    rotate_left
                    · simp only [Act.put, List.setIfInBounds_toArray, List.set_cons_zero, List.set_cons_succ, i64_w, i32_w]
                      rfl
                    refine take_ (i := 27) (N := some 59) (v := ?_) (a' := ?_) #[true, true, true, true, true, true, true, true, true, true, true, true, true, true, true, true, true, true, true, true, true, true, true, true, true, true, true, true, true, false, false, false, false] rfl rfl (take_ofW HT_.out HW_.out (by kernel_rfl)) (fun _ _ _ h => h) (Or.inl ⟨by rfl, ?_⟩) hHeld ?_ ?_
                    rotate_left
                    · rintro w' ⟨s0, s1, s2, s3, s4, s5⟩
                      go_simp
                      with_reducible rfl
                    rotate_left
                    · simp only [Act.put, List.setIfInBounds_toArray, List.set_cons_zero, List.set_cons_succ, i64_w, i32_w]
                      rfl
                    refine one_ (i := 29) (N := some 61) #[true, true, true, true, true, true, true, true, true, true, true, true, true, true, true, true, true, true, true, true, true, true, true, true, true, true, true, true, true, true, false, false, false] rfl rfl (one_of HT_.out (by kernel_rfl)) (by decide) (fun K hK => ?_)
                    refine goes_ Try.func14 (by kernel_rfl) rfl #[.int .u64 a0] (by rfl) rfl rfl (by (try simp only [List.map_toArray, List.map_cons, List.map_nil]); first | done | rfl | (simp only [List.length_drop, List.length_take]; rfl)) ?_
                    with_reducible refine (sieve_Generator.calls k a0 t158 _ A17.out).mono ?_
                    rintro e w28 ⟨rfl, hb⟩
                    have HS3_ := (hb.cell (World.block_lt_of_cell? _ _ (hHeld.2.2.2.1))).trans (hHeld.2.2.2.1)
                    have HS4_ := (hb.cell (World.block_lt_of_cell? _ _ (hHeld.2.2.2.2.1))).trans (hHeld.2.2.2.2.1)
                    have HS5_ := (hb.cell (World.block_lt_of_cell? _ _ (hHeld.2.2.2.2.2))).trans (hHeld.2.2.2.2.2)
                    refine ⟨_, rfl, ?_⟩
                    have n0_ := Aside0.mk (Kd.S_below (by (with_reducible repeat (first | apply Kd.S_alloc | apply Kd.S_drewN | apply Kd.S_drew)); exact HO146.out) hb)
                    have n1_ := Aside0.mk (Kd.R_below (by (with_reducible repeat (first | apply Kd.R_alloc | apply Kd.R_drewN | apply Kd.R_drew)); exact HO154.out) hb)
                    have n2_ := Aside0.mk (Kd.R_below (by (with_reducible repeat (first | apply Kd.R_alloc | apply Kd.R_drewN | apply Kd.R_drew)); exact HL157_2.out) hb)
                    have n3_ := Aside0.mk (blk_below (g := gb156) (o := .cells #[.int .u64 t150, .int .u64 t151, .slice Ao25 t152.length co25] 45 (0, 0)) (by (with_reducible repeat (first | refine blk_drewN ?_ _ | refine blk_drew ?_ | refine blk_alloc ?_ _)); exact BK156.out) hb)
                    have n4_ := Aside0.mk (Kd.C_below (by repeat (first | (with_reducible exact HR157_2.out) | (with_reducible refine Kd.C_alloc ?_ _) | (with_reducible refine Kd.C_drewN ?_ _) | (with_reducible refine Kd.C_drew ?_) | exact HR157_2.out)) hb)
                    have n5_ := Aside0.mk (below_step (by repeat (first | (with_reducible first | exact HB.out | apply below_alloc | apply pw_below_drewN | apply below_drew1 | refine below_set ?_ GE156.out) | exact HB.out)) hb)
                    clear HO146
                    clear HO154
                    clear HL157_2
                    clear BK156
                    clear HR157_2
                    clear HB
                    have HO146 := n0_
                    have HO154 := n1_
                    have HL157_2 := n2_
                    have BK156 := n3_
                    have HR157_2 := n4_
                    have HB := n5_
                    clear n0_ n1_ n2_ n3_ n4_ n5_
                    (try clear hb)
                    (try clear hb2)
                    (try clear hk)
                    (try clear hi)
                    refine hK.out _ _ ⟨(blk_cell BK156.out 0).trans rfl, (blk_cell BK156.out 1).trans rfl, (blk_cell BK156.out 2).trans rfl, HS3_, HS4_, HS5_⟩ (fun hHeld => ?_)
                    clear hK K
                    refine norm_ (a' := ?_) ?_ ?_
                    rotate_left
                    · show Act.put _ (some 61) _ = _
                      simp only [Act.put, List.setIfInBounds_toArray, List.set_cons_zero, List.set_cons_succ, i64_w, i32_w]
                      rfl
                    refine pure_ (i := 30) (N := some 62) (v := ?_) (a' := ?_) #[true, true, true, true, true, true, true, true, true, true, true, true, true, true, true, true, true, true, true, true, true, true, true, true, true, true, true, true, true, true, true, false, false] rfl rfl (any_of HT_.out (by kernel_rfl)) (fun _ _ _ h => h) (Or.inl ⟨by rfl, ?_⟩) ?_ ?_
                    rotate_left
                    · intro w'
                      go_simp
                      with_reducible rfl
                    rotate_left
                    · simp only [Act.put, List.setIfInBounds_toArray, List.set_cons_zero, List.set_cons_succ, i64_w, i32_w]
                      rfl
                    refine pure_ (i := 31) (N := some 63) (v := ?_) (a' := ?_) #[true, true, true, true, true, true, true, true, true, true, true, true, true, true, true, true, true, true, true, true, true, true, true, true, true, true, true, true, true, true, true, true, false] rfl rfl (any_of HT_.out (by kernel_rfl)) (fun _ _ _ h => h) (Or.inl ⟨by rfl, ?_⟩) ?_ ?_
                    rotate_left
                    · intro w'
                      go_simp
                      with_reducible rfl
                    rotate_left
                    · simp only [Act.put, List.setIfInBounds_toArray, List.set_cons_zero, List.set_cons_succ, i64_w, i32_w]
                      rfl
                    refine pure_ (i := 32) (N := some 2) (v := ?_) (a' := ?_) #[true, true, true, true, true, true, true, true, true, true, true, true, true, true, true, true, true, true, true, true, true, true, true, true, true, true, true, true, true, true, true, true, true] rfl rfl (any_of HT_.out (by kernel_rfl)) (fun _ _ _ h => h) (Or.inl ⟨by rfl, ?_⟩) ?_ ?_
                    rotate_left
                    · intro w'
                      go_simp
                      with_reducible rfl
                    rotate_left
                    · simp only [Act.put, List.setIfInBounds_toArray, List.set_cons_zero, List.set_cons_succ, i64_w, i32_w]
                      rfl
                    refine done_ (done_of HT_.out (by kernel_rfl)) ?_
                    try go_wp2
                    go_ret
                    exact ⟨by first | rfl | (simp [errW_none, errW_some] <;> rfl) | (simp only [← hji13]; first | rfl | (simp [errW_none, errW_some] <;> rfl)) | (simp [*, errW_none, errW_some] <;> rfl), by repeat (first | (with_reducible first | exact HB.out | apply below_alloc | apply pw_below_drewN | apply below_drew1 | refine below_set ?_ GE156.out) | exact HB.out)⟩
                  · rw [if_neg c16] at H
                    have c16b0 : (((rd_T45 t143 (ji13)).f0) == a0) = false := beq_eq_false_iff_ne.mpr c16
                    have c16b1 : (((rd_T45 t143 (ji13)).f0) != a0) = true := bne_iff_ne.mpr c16
                    exact absurd H (by simp)
                · rw [if_neg c15] at H
                  exact absurd H (by simp)
              · rw [if_neg c14] at H
                exact absurd H (by simp)
            · rw [if_neg c12] at H
              have c12b0 : decide (0 < (t143.length : Int)) = false := decide_eq_false c12
              have c12b1 : decide (0 < t143.length) = false := decide_eq_false (by omega)
              clear c12
              exact absurd H (by simp)
          · replace c11 := Bool.eq_false_iff.mpr c11
            subst c11
            have H1 : (some false) = some true := by rw [if_neg (show ¬ (false = true) by decide)] at H <;> exact H
            clear H
            have H := H1
            clear H1
            exact absurd H (by simp)
        · rw [if_neg c10] at H
          have c10b0 : (t149 == 0) = false := beq_eq_false_iff_ne.mpr c10
          have c10b1 : (t149 != 0) = true := bne_iff_ne.mpr c10
          exact absurd H (by simp)
      · rw [if_neg c9] at H
        have c9b0 : (t144 == 0) = false := beq_eq_false_iff_ne.mpr c9
        have c9b1 : (t144 != 0) = true := bne_iff_ne.mpr c9
        exact absurd H (by simp)
    · replace c6 := Bool.eq_false_iff.mpr c6
      subst c6
      have H1 : (some (t144 == 1)) = some true := by rw [if_neg (show ¬ (false = true) by decide)] at H <;> exact H
      clear H
      have H := H1
      clear H1
      have hR_ := Option.some.inj H
      go_enter Try.func7, Try.ntmps7
      go_wp2_with (first | ((with_reducible refine gate_callee (f := 8) rfl ?_); refine goesL_ (some 9) rfl rfl Try.func8 (by kernel_rfl) rfl #[] rfl (by (try simp only [List.map_toArray, List.map_cons, List.map_nil]); first | done | rfl | (simp only [List.length_drop, List.length_take]; rfl)) ?_; (with_reducible refine (epicyclelaw05_alive.calls k  true _ A2.out).mono ?_); rintro e w29 ⟨rfl, hb⟩; refine ⟨_, rfl, ?_⟩; have n0_ := Aside0.mk (below_step (by repeat (first | (with_reducible first | exact HB.out | apply below_alloc | apply pw_below_drewN | apply below_drew1) | exact HB.out)) hb); clear HB; have HB := n0_; clear n0_; (try clear hb); (try clear hb2); (try clear hk); (try clear hi)) | ((with_reducible refine gate_callee (f := 17) rfl ?_); refine goesL_ (some 13) rfl rfl Try.func17 (by kernel_rfl) rfl #[.int .u64 a0] rfl (by (try simp only [List.map_toArray, List.map_cons, List.map_nil]); first | done | rfl | (simp only [List.length_drop, List.length_take]; rfl)) ?_; (with_reducible refine (sieve_Row.calls k a0 t143 t144 _ A4.out).mono ?_); rintro e w30 ⟨v145, rfl, ho0, hb⟩; refine ⟨_, rfl, ?_⟩; have n0_ := Aside0.mk (Kd.S_lower ho0 (below_size (by repeat (first | (with_reducible first | exact HB.out | apply below_alloc | apply pw_below_drewN | apply below_drew1) | exact HB.out)))); have n1_ := Aside0.mk (below_step (by repeat (first | (with_reducible first | exact HB.out | apply below_alloc | apply pw_below_drewN | apply below_drew1) | exact HB.out)) hb); clear HB; have HO146 := n0_; have HB := n1_; clear n0_ n1_; (try clear hb); (try clear hb2); (try clear hk); (try clear hi); (try clear ho0)) | ((with_reducible refine gate_callee (f := 18) rfl ?_); refine goesL_ (some 17) rfl rfl Try.func18 (by kernel_rfl) rfl #[.int .u64 a0] rfl (by (try simp only [List.map_toArray, List.map_cons, List.map_nil]); first | done | rfl | (simp only [List.length_drop, List.length_take]; rfl)) ?_; (with_reducible refine (epicycleref05_Odd.calls k a0 false _ A5.out).mono ?_); rintro e w' ⟨rfl, ⟨nd, rfl⟩⟩; refine ⟨_, rfl, ?_⟩))
      go_ret
      exact ⟨by first | rfl | (simp [errW_none, errW_some] <;> rfl) | (simp [*, errW_none, errW_some] <;> rfl), by repeat (first | (with_reducible first | exact HB.out | apply below_alloc | apply pw_below_drewN | apply below_drew1) | exact HB.out)⟩
  · replace c3 := Bool.eq_false_iff.mpr c3
    subst c3
    have H1 : (some false) = some true := by rw [if_neg (show ¬ (false = true) by decide)] at H <;> exact H
    clear H
    have H := H1
    clear H1
    exact absurd H (by simp)
def epicyclelaw05_SieveProves.Pure : Prop := ∀ (a0 : Int), (Lit.int .u64 a0).wf = true → ∃ k, epicyclelaw05_SieveProves.f k a0 = some true
theorem epicyclelaw05_SieveProves.walk (P : epicyclelaw05_SieveProves.Pure) (a0 : Int) (w : World) (w0 : (Lit.int .u64 a0).wf = true) :
    Calls Try.prog 7 #[.int .u64 a0] w fun e w' => e = .returned (.bool true) ∧ Below w.heap.size w w' := by
  obtain ⟨k, h⟩ := P a0 w0
  refine (epicyclelaw05_SieveProves.calls k a0 w h).mono ?_
  rintro e w' ⟨rfl, hd⟩
  exact ⟨rfl, hd⟩
end Go.Proofs.Ytcphlhphdpjnfaa.XT
end
section
namespace Go.Proofs.Ytcphlhphdpjnfaa.Row05
open Go Go.RowKit Go.Proofs.YtcphlhphdpjnfaaW.PrintWords Go.Proofs.YtcphlhphdpjnfaaW.PrintLast Go.Proofs.YtcphlhphdpjnfaaW.PrintMore Go.Proofs.Ytcphlhphdpjnfaa.Given Go.Proofs.Ytcphlhphdpjnfaa.M Go.Proofs.Ytcphlhphdpjnfaa.XS Go.Proofs.Ytcphlhphdpjnfaa.XT Go.Proofs.Ytcphlhphdpjnfaa.Given05 Go.Proofs.Ytcphlhphdpjnfaa.Num Go.Proofs.Ytcphlhphdpjnfaa.Count05
def OddN (p : Nat) : Prop := 3 ≤ p ∧ p ≤ 65536 ∧ Prime p
theorem OddN.int {p : Nat} (h : OddN p) : OddP (p : Int) := ⟨by have := h.1; omega, by have := h.2.1; omega, h.2.2⟩
theorem OddN.of {p : Nat} (h : OddP (p : Int)) : OddN p := ⟨by have := h.1; omega, by have := h.2.1; omega, h.2.2⟩
theorem OddN.odd {p : Nat} (h : OddN p) : p % 2 = 1 := by
  refine Classical.byContradiction fun c => ?_
  rcases h.2.2.2 2 (Nat.dvd_of_mod_eq_zero (by omega)) with e | e
  · omega
  · have := h.1; omega
open Classical in
/-- The least primitive root; the factors of p - 1. -/
noncomputable def gen (p : Nat) : Nat := if h : ∃ r, Least p r then h.choose else 0
open Classical in
noncomputable def facs (p : Nat) : List (Nat × Nat) := if h : ∃ l, Facs 2 (p - 1) l ∧ Ev (fun k => sieve_Factor.f k ((p - 1 : Nat) : Int)) (m33 l) ∧ Ev (fun k => epicycleref05_Factor.f k ((p - 1 : Nat) : Int)) (m34 l) then h.choose else []
theorem gen_least {p : Nat} (h : OddN p) : Least p (gen p) := by
  have e := XS.exists_least h.2.2 h.1
  unfold gen
  rw [dif_pos e]
  exact e.choose_spec
theorem facs_of {p : Nat} (h : OddN p) : Facs 2 (p - 1) (facs p) ∧ Ev (fun k => sieve_Factor.f k ((p - 1 : Nat) : Int)) (m33 (facs p)) ∧ Ev (fun k => epicycleref05_Factor.f k ((p - 1 : Nat) : Int)) (m34 (facs p)) := by
  have e := Factor_both (p - 1) (by have := h.1; omega) (by have := h.2.1; omega)
  unfold facs
  rw [dif_pos e]
  exact e.choose_spec
noncomputable def entS (p : Nat) : S45 := ⟨(p : Int), (gen p : Int), m33 (facs p)⟩
structure Good (ps : List Nat) (n : Nat) : Prop where
  odd : ∀ q ∈ ps, OddN q
  nodup : ps.Nodup
  closed : ∀ q ∈ ps.drop n, ∀ x ∈ facs q, x.1 = 2 ∨ x.1 ∈ ps
theorem any_ps (ps : List Nat) (p : Nat) : (ps.map entS).any (fun e => e.f0 == (p : Int)) = decide (p ∈ ps) := by
  rw [Bool.eq_iff_iff, List.any_eq_true, decide_eq_true_eq]
  constructor
  · rintro ⟨e, he, h⟩
    obtain ⟨q, hq, rfl⟩ := List.mem_map.1 he
    have h : ((q : Int) == (p : Int)) = true := h
    rw [beq_iff_eq] at h
    rw [show p = q by omega]; exact hq
  · intro h
    exact ⟨entS p, List.mem_map_of_mem h, by show ((p : Int) == (p : Int)) = true; exact beq_self_eq_true _⟩
theorem gather_two {all : List S45} : Ev (fun k => gatherF k all 2) all := by
  refine Ev.step (f := fun _ => some all) (fun k => ?_) (Ev.now _)
  unfold gatherF
  rw [if_pos (by unfold U; omega)]
  split
  · rfl
  · rw [if_pos rfl]
theorem gather_in {ps : List Nat} {p : Nat} (h : p ∈ ps) (hp : OddN p) : Ev (fun k => gatherF k (ps.map entS) (p : Int)) (ps.map entS) := by
  refine Ev.step (f := fun _ => some (ps.map entS)) (fun k => ?_) (Ev.now _)
  unfold gatherF
  have := hp.2.1
  rw [if_pos (by unfold U; omega), if_pos (by rw [any_ps]; exact decide_eq_true h)]
theorem gather_new {ps : List Nat} {p : Nat} {R : List S45} (h : p ∉ ps) (hp : OddN p) (hl : ps.length < 1000) (E : Ev (fun k => gatherL k ((ps ++ [p]).map entS) (m33 (facs p))) R) : Ev (fun k => gatherF k (ps.map entS) (p : Int)) R := by
  have h1 := hp.1
  have h2 := hp.2.1
  have hw : IntKind.u64.wrap ((p : Int) - 1) = ((p - 1 : Nat) : Int) := by rw [wu64_id _ (by omega) (by omega)]; omega
  refine Ev.step (f := fun k => (sieve_Factor.f k ((p - 1 : Nat) : Int)).bind fun l => (sieve_Generator.f k (p : Int)).bind fun g => if (ps.map entS).length < 1000 then gatherL k (ps.map entS ++ [⟨(p : Int), g, l⟩]) l else none) (fun k => ?_) ?_
  · unfold gatherF
    rw [if_pos (by unfold U; omega), if_neg (by rw [any_ps, decide_eq_true_eq]; exact h), if_neg (by omega), hw]
  · refine Ev.bind (facs_of hp).2.1 (Ev.bind (Generator_odd hp.int (gen_least hp)) (evP (by rw [List.length_map]; exact hl) ?_))
    rw [List.map_append] at E
    exact E
theorem gatherL_nil {all : List S45} : Ev (fun k => gatherL k all []) all := by
  refine Ev.step (f := fun _ => some all) (fun k => ?_) (Ev.now _)
  unfold gatherL
  rfl
theorem gatherL_cons {all a R : List S45} {x : Nat × Nat} {l : List (Nat × Nat)} (h1 : Ev (fun k => gatherF k all (x.1 : Int)) a) (h2 : Ev (fun k => gatherL k a (m33 l)) R) : Ev (fun k => gatherL k all (m33 (x :: l))) R := by
  refine Ev.step (f := fun k => (gatherF k all (x.1 : Int)).bind fun a => gatherL k a (m33 l)) (fun k => ?_) (Ev.bind h1 h2)
  show gatherL (k + 1) all ((⟨(x.1 : Int), (x.2 : Int)⟩ : S33) :: m33 l) = _
  simp only [gatherL]
theorem fac_odd {p : Nat} (hp : OddN p) {x : Nat × Nat} (hx : x ∈ facs p) : x.1 < p ∧ (x.1 = 2 ∨ OddN x.1) := by
  have hf := (facs_of hp).1
  have h1 := hp.1
  have h2 := hp.2.1
  have hd := Nat.le_of_dvd (by omega) (hf.le (by omega) hx)
  have pr := (hf.1 x hx).1
  refine ⟨by omega, ?_⟩
  have := pr.1
  by_cases c : x.1 = 2
  · exact .inl c
  · exact .inr ⟨by omega, by omega, pr⟩
theorem gather_ev (k : Nat) : ∀ (p : Nat) (ps : List Nat), (p = 2 ∨ OddN p) → Good ps ps.length → ps.length + sz k p < 1000 →
    ∃ xs, xs.length ≤ sz k p ∧ (∀ q ∈ xs, q ≤ p) ∧ (p = 2 ∨ p ∈ ps ++ xs) ∧ Good (ps ++ xs) ps.length ∧ Ev (fun k => gatherF k (ps.map entS) (p : Int)) ((ps ++ xs).map entS) := by
  induction k with
  | zero =>
    intro p ps _ _ h
    have : sz 0 p = 1000 := rfl
    omega
  | succ k ih =>
    intro p ps hp hg hs
    rcases hp with rfl | hp
    · refine ⟨[], Nat.zero_le _, by simp, .inl rfl, by rw [List.append_nil]; exact hg, ?_⟩
      rw [List.append_nil]; exact gather_two
    by_cases hin : p ∈ ps
    · refine ⟨[], Nat.zero_le _, by simp, .inr (by rw [List.append_nil]; exact hin), by rw [List.append_nil]; exact hg, ?_⟩
      rw [List.append_nil]; exact gather_in hin hp
    have hf := (facs_of hp).1
    have hsf := sz_facs (k := k) hp.1 hf (by omega)
    -- the factors, one behind the other
    have key : ∀ (l : List (Nat × Nat)), (∀ x ∈ l, x ∈ facs p) → ∀ qs : List Nat, (∀ q ∈ qs, OddN q) → qs.Nodup → qs.length + sumL (sz k) (l.map fun x => x.1) < 1000 →
        ∃ ys, ys.length ≤ sumL (sz k) (l.map fun x => x.1) ∧ (∀ q ∈ ys, q < p) ∧ (∀ x ∈ l, x.1 = 2 ∨ x.1 ∈ qs ++ ys) ∧ Good (qs ++ ys) qs.length ∧ Ev (fun k => gatherL k (qs.map entS) (m33 l)) ((qs ++ ys).map entS) := by
      intro l
      induction l with
      | nil =>
        intro _ qs ho hn _
        refine ⟨[], Nat.zero_le _, by simp, by simp, by rw [List.append_nil]; exact ⟨ho, hn, by simp⟩, ?_⟩
        rw [List.append_nil]; exact gatherL_nil
      | cons x l ihl =>
        intro hsub qs ho hn hlen
        rw [List.map_cons, sumL_cons] at hlen
        have hx := fac_odd hp (hsub x List.mem_cons_self)
        obtain ⟨ys, l1, l2, l3, l4, l5⟩ := ih x.1 qs hx.2 ⟨ho, hn, by simp⟩ (by omega)
        obtain ⟨zs, m1, m2, m3, m4, m5⟩ := ihl (fun y hy => hsub y (List.mem_cons_of_mem _ hy)) (qs ++ ys) l4.odd l4.nodup (by rw [List.length_append]; omega)
        refine ⟨ys ++ zs, by rw [List.length_append, List.map_cons, sumL_cons]; omega, fun q hq => ?_, fun y hy => ?_, ?_, ?_⟩
        · rcases List.mem_append.1 hq with h | h
          · have := l2 q h; omega
          · exact m2 q h
        · rw [← List.append_assoc]
          rcases List.mem_cons.1 hy with rfl | hy
          · rcases l3 with h | h
            · exact .inl h
            · exact .inr (List.mem_append_left _ h)
          · exact m3 y hy
        · rw [← List.append_assoc]
          refine ⟨m4.odd, m4.nodup, fun q hq y hy => ?_⟩
          rw [List.append_assoc, List.drop_left] at hq
          rcases List.mem_append.1 hq with h | h
          · rcases l4.closed q (by rw [List.drop_left]; exact h) y hy with e | e
            · exact .inl e
            · exact .inr (List.mem_append_left _ e)
          · exact m4.closed q (by rw [List.drop_left]; exact h) y hy
        · rw [← List.append_assoc]
          exact gatherL_cons l5 m5
    obtain ⟨ys, l1, l2, l3, l4, l5⟩ := key (facs p) (fun x hx => hx) (ps ++ [p]) (fun q hq => by
      rcases List.mem_append.1 hq with h | h
      · exact hg.odd q h
      · have : q = p := by simpa using h
        rw [this]; exact hp) (List.nodup_append.2 ⟨hg.nodup, by simp, fun a ha b hb => by
        have : b = p := by simpa using hb
        rintro rfl
        exact hin (this ▸ ha)⟩) (by rw [List.length_append]; show ps.length + 1 + _ < 1000; omega)
    refine ⟨p :: ys, by show ys.length + 1 ≤ _; omega, fun q hq => ?_, .inr (by simp), ?_, ?_⟩
    · rcases List.mem_cons.1 hq with rfl | h
      · omega
      · have := l2 q h; omega
    · have e : ps ++ p :: ys = ps ++ [p] ++ ys := by simp
      refine ⟨e ▸ l4.odd, e ▸ l4.nodup, fun q hq x hx => ?_⟩
      rw [List.drop_left] at hq
      rw [e]
      rcases List.mem_cons.1 hq with rfl | h
      · exact l3 x hx
      · exact l4.closed q (by rw [List.drop_left]; exact h) x hx
    · have e : ps ++ p :: ys = ps ++ [p] ++ ys := by simp
      rw [e]
      exact gather_new hin hp (by omega) l5
end Go.Proofs.Ytcphlhphdpjnfaa.Row05
end
section
namespace Go.Proofs.Ytcphlhphdpjnfaa.XT
open Go.Proofs.Ytcphlhphdpjnfaa.XS
open Go Go.RowKit Go.Proofs.YtcphlhphdpjnfaaW.PrintWords Go.Proofs.YtcphlhphdpjnfaaW.PrintLast Go.Proofs.YtcphlhphdpjnfaaW.PrintMore Go.Proofs.Ytcphlhphdpjnfaa.Given Go.Proofs.Ytcphlhphdpjnfaa.Given04 Go.Proofs.Ytcphlhphdpjnfaa.M Go.Proofs.Ytcphlhphdpjnfaa.Mont
def p59 (x : S33) : Int × Int := (x.f0, x.f1)
def okP (x : Int × Int) : Prop := U x.1 ∧ -9223372036854775808 ≤ x.2 ∧ x.2 < 9223372036854775808
def okL (l : List (Int × Int)) : Prop := ∀ x ∈ l, okP x
def wr (A : Int → Bool) (m : Int) : Int → List (Int × Int) → Int → Bool
  | _, [], n => n == m
  | q, x :: l, n => (decide (1 ≤ x.2) && decide (x.2 ≤ 62)) && (decide (q < x.1) && A x.1) && wr A m x.1 l (n * x.1 ^ x.2.toNat)
theorem pow_ge_one {q : Int} (h : 1 ≤ q) : ∀ n : Nat, 1 ≤ q ^ n
  | 0 => by simp
  | n + 1 => by
    rw [Int.pow_succ]
    have := Int.mul_le_mul (pow_ge_one h n) h (by omega) (by have := pow_ge_one h n; omega)
    simpa using this
theorem mul_ge_left {n a : Int} (hn : 0 ≤ n) (ha : 1 ≤ a) : n ≤ n * a := by
  have := Int.mul_le_mul_of_nonneg_left ha hn
  simpa using this
theorem wr_big {A : Int → Bool} {m : Int} (hm : m < 18446744073709551616) : ∀ (l : List (Int × Int)) (q n : Int), 2 ≤ q → 18446744073709551616 ≤ n → wr A m q l n = false
  | [], q, n, _, hn => by unfold wr; exact beq_eq_false_iff_ne.mpr (by omega)
  | x :: l, q, n, hq, hn => by
    unfold wr
    by_cases h : q < x.1
    · rw [wr_big hm l x.1 _ (by omega) (by have := mul_ge_left (n := n) (by omega) (pow_ge_one (q := x.1) (by omega) x.2.toNat); omega), Bool.and_false]
    · rw [decide_eq_false h]; simp
theorem mul64_f {x y : Int} (hx : U x) (hy : U y) : bits_Mul64.f x y = some (x * y / 18446744073709551616, x * y % 18446744073709551616) := by
  unfold bits_Mul64.f
  rw [if_pos ⟨hx.1, hx.2, hy.1, hy.2⟩]
section
variable {ahead : List S45} {F : List S33} {P G len : Int}
theorem whole_l1 {i Q E : Int} {l : List (Int × Int)} (hm : P - 1 < 18446744073709551616) (hQ : 2 ≤ Q) (uQ : U Q) (e1 : 1 ≤ E) (e2 : E ≤ 62)
    (hT : ∀ n, 1 ≤ n → U n → Ev (fun k => proof_whole.l0 k ahead n F len (wrap64 (i + 1)) P G F) (wr (hasP ahead) (P - 1) Q l n)) :
    ∀ (d : Nat) (c n : Int), 0 ≤ c → c + d = E → 1 ≤ n → U n → Ev (fun k => proof_whole.l1 k ahead n F len i E c P G F Q E) (wr (hasP ahead) (P - 1) Q l (n * Q ^ d))
  | 0, c, n, c0, cd, n1, un => by
    rw [Int.pow_zero, Int.mul_one]
    refine Ev.step (fun k => ?_) (hT n n1 un)
    simp only [proof_whole.l1]
    rw [if_neg (by omega)]
  | d + 1, c, n, c0, cd, n1, un => by
    have hp : n ≤ n * Q := mul_ge_left (by omega) (by omega)
    have hw : wrap64 (c + 1) = c + 1 := w64_id _ (by omega) (by omega)
    have e : n * Q ^ (d + 1) = n * Q * Q ^ d := by rw [Int.pow_succ, Int.mul_comm (Q ^ d) Q, Int.mul_assoc]
    by_cases hb : n * Q / 18446744073709551616 > 0
    · have : wr (hasP ahead) (P - 1) Q l (n * Q ^ (d + 1)) = false := by
        rw [e]
        refine wr_big hm _ _ _ hQ ?_
        have := mul_ge_left (n := n * Q) (by omega) (pow_ge_one (q := Q) (by omega) d)
        omega
      rw [this]
      refine Ev.step (f := fun _ => some false) (fun k => ?_) (Ev.now _)
      simp only [proof_whole.l1]
      rw [if_pos (by omega), mul64_f un uQ, Option.bind_some, if_pos hb]
    · have lt : n * Q < 18446744073709551616 := by omega
      have IH := whole_l1 hm hQ uQ e1 e2 hT d (c + 1) (n * Q) (by omega) (by omega) (by omega) (by unfold U; omega)
      rw [e]
      refine Ev.step (fun k => ?_) IH
      simp only [proof_whole.l1]
      rw [if_pos (by omega), mul64_f un uQ, Option.bind_some, if_neg hb, hw, Int.emod_eq_of_lt (by omega) lt]
theorem whole_j2t {n i len i2 Q E : Int} : Ev (fun k => proof_whole.j2 k ahead n i F len i2 true P G F Q E) false :=
  Ev.step (f := fun _ => some false) (fun k => by simp [proof_whole.j2]) (Ev.now _)
theorem whole_j3t {n len i2 Q E : Int} : Ev (fun k => proof_whole.j3 k ahead n F len i2 true P G F Q E) false :=
  Ev.step (f := fun _ => some false) (fun k => by simp [proof_whole.j3]) (Ev.now _)
theorem rd_drop {F : List S33} {i : Nat} {x : S33} {l : List S33} (h : F.drop i = x :: l) : rd_T33 F (i : Int) = x ∧ i < F.length ∧ F.drop (i + 1) = l := by
  have hlt : i < F.length := by
    refine Classical.byContradiction fun c => ?_
    rw [List.drop_of_length_le (by omega)] at h
    cases h
  rw [List.drop_eq_getElem_cons hlt] at h
  injection h with h1 h2
  refine ⟨?_, hlt, h2⟩
  unfold rd_T33
  simp [List.getD, List.getElem?_eq_getElem hlt, h1]
theorem whole_step (hF : F.length ≤ 16) (hok : okL (F.map p59)) (hlen : len = (F.length : Int)) (hP : P - 1 < 18446744073709551616)
    (x : S33) (l : List S33) (i : Nat) (q n : Int) (hx : rd_T33 F (i : Int) = x) (hi : i < F.length) (hxm : x ∈ F) (i1 : 1 ≤ i) (hq : (rd_T33 F ((i - 1 : Nat) : Int)).f0 = q) (q2 : 2 ≤ q) (n1 : 1 ≤ n) (un : U n)
    (IH : 2 ≤ x.f0 → ∀ n, 1 ≤ n → U n → Ev (fun k => proof_whole.l0 k ahead n F len ((i + 1 : Nat) : Int) P G F) (wr (hasP ahead) (P - 1) x.f0 (l.map p59) n)) :
    Ev (fun k => proof_whole.l0 k ahead n F len i P G F) (wr (hasP ahead) (P - 1) q ((x :: l).map p59) n) := by
  have p0 : (i : Int) > 0 := by omega
  have p1 : 0 ≤ ((i - 1 : Nat) : Int) := by omega
  have p2 : ((i - 1 : Nat) : Int) < (F.length : Int) := by omega
  have p3 : (i : Int) < len := by omega
  have p4 : 0 ≤ (i : Int) := by omega
  have p5 : (i : Int) < (F.length : Int) := by omega
  have hxo : okP (p59 x) := hok _ (List.mem_map_of_mem hxm)
  have ux : U x.f0 := hxo.1
  rw [List.map_cons]
  by_cases h1 : x.f1 < 1
  · have e : wr (hasP ahead) (P - 1) q (p59 x :: l.map p59) n = false := by
      unfold wr p59; rw [decide_eq_false (show ¬ 1 ≤ x.f1 by omega)]; simp
    rw [e]
    refine Ev.step (fun k => ?_) (whole_j2t (ahead := ahead) (F := F) (P := P) (G := G) (n := n) (i := i) (len := len) (i2 := i) (Q := x.f0) (E := x.f1))
    simp only [proof_whole.l0]
    rw [if_pos p3, if_pos p4, if_pos p5, hx, if_pos h1]
  by_cases h2 : x.f1 > 62
  · have e : wr (hasP ahead) (P - 1) q (p59 x :: l.map p59) n = false := by
      unfold wr p59; rw [decide_eq_false (show ¬ x.f1 ≤ 62 by omega)]; simp
    rw [e]
    refine Ev.step (fun k => ?_) (whole_j2t (ahead := ahead) (F := F) (P := P) (G := G) (n := n) (i := i) (len := len) (i2 := i) (Q := x.f0) (E := x.f1))
    simp only [proof_whole.l0]
    rw [if_pos p3, if_pos p4, if_pos p5, hx, if_neg h1, decide_eq_true h2]
  have w1 : wrap64 ((i : Int) - 1) = ((i - 1 : Nat) : Int) := by rw [w64_id _ (by omega) (by omega)]; omega
  -- what stands behind the first check
  suffices hj : Ev (fun k => proof_whole.j2 k ahead n i F len i false P G F x.f0 x.f1) (wr (hasP ahead) (P - 1) q (p59 x :: l.map p59) n) by
    refine Ev.step (fun k => ?_) hj
    simp only [proof_whole.l0]
    rw [if_pos p3, if_pos p4, if_pos p5, hx, if_neg h1, decide_eq_false h2]
  by_cases h3 : x.f0 ≤ q
  · have e : wr (hasP ahead) (P - 1) q (p59 x :: l.map p59) n = false := by
      unfold wr p59; rw [decide_eq_false (show ¬ q < x.f0 by omega)]; simp
    rw [e]
    refine Ev.step (fun k => ?_) (whole_j3t (ahead := ahead) (F := F) (P := P) (G := G) (n := n) (len := len) (i2 := i) (Q := x.f0) (E := x.f1))
    simp only [proof_whole.j2]
    rw [if_neg (show ¬ (false = true) from Bool.false_ne_true), if_pos p0, w1, if_pos p1, if_pos p2, hq, if_pos h3]
  cases h4 : hasP ahead x.f0 with
  | false =>
    have e : wr (hasP ahead) (P - 1) q (p59 x :: l.map p59) n = false := by
      unfold wr p59; simp only [h4]; simp
    rw [e]
    refine Ev.step (fun k => ?_) (whole_j3t (ahead := ahead) (F := F) (P := P) (G := G) (n := n) (len := len) (i2 := i) (Q := x.f0) (E := x.f1))
    simp only [proof_whole.j2]
    rw [if_neg (show ¬ (false = true) from Bool.false_ne_true), if_pos p0, w1, if_pos p1, if_pos p2, hq, if_neg h3, proof_claimed.f, Option.bind_some, h4]
    rfl
  | true =>
    have w2 : wrap64 ((i : Int) + 1) = ((i + 1 : Nat) : Int) := by rw [w64_id _ (by omega) (by omega)]; omega
    have L1 := whole_l1 (ahead := ahead) (F := F) (P := P) (G := G) (len := len) (i := i) (Q := x.f0) (E := x.f1) (l := l.map p59) (by omega) (by omega) ux (by omega) (by omega)
      (fun n n1 un => by rw [w2]; exact IH (by omega) n n1 un) x.f1.toNat 0 n (by omega) (by omega) n1 un
    have e : wr (hasP ahead) (P - 1) q (p59 x :: l.map p59) n = wr (hasP ahead) (P - 1) x.f0 (l.map p59) (n * x.f0 ^ x.f1.toNat) := by
      have a1 : 1 ≤ x.f1 := by omega
      have a2 : x.f1 ≤ 62 := by omega
      have a3 : q < x.f0 := by omega
      rw [wr]; simp [p59, h4, a1, a2, a3]
    rw [e]
    refine Ev.step (f := fun k => proof_whole.j3 k ahead n F len i false P G F x.f0 x.f1) (fun k => ?_) (Ev.step (fun k => ?_) L1)
    · simp only [proof_whole.j2]
      rw [if_neg (show ¬ (false = true) from Bool.false_ne_true), if_pos p0, w1, if_pos p1, if_pos p2, hq, if_neg h3, proof_claimed.f, Option.bind_some, h4]
      rfl
    · simp only [proof_whole.j3]
      rw [if_neg (show ¬ (false = true) from Bool.false_ne_true)]
theorem whole_l0 (hF : F.length ≤ 16) (hok : okL (F.map p59)) (hP : 1 ≤ P) (hP2 : P < 18446744073709551616) (hlen : len = (F.length : Int)) (l : List S33) :
    ∀ (i : Nat) (q n : Int), F.drop i = l → 1 ≤ i → (rd_T33 F ((i - 1 : Nat) : Int)).f0 = q → 2 ≤ q → 1 ≤ n → U n →
      Ev (fun k => proof_whole.l0 k ahead n F len i P G F) (wr (hasP ahead) (P - 1) q (l.map p59) n) := by
  induction l with
  | nil =>
    intro i q n hd i1 hq q2 n1 un
    have : F.length ≤ i := by have := congrArg List.length hd; simp at this; omega
    refine Ev.step (f := fun _ => some (n == P - 1)) (fun k => ?_) (Ev.now _)
    simp only [proof_whole.l0]
    rw [if_neg (by omega), wu64_id _ (by omega) (by omega)]
  | cons x l ih =>
    intro i q n hd i1 hq q2 n1 un
    obtain ⟨hx, hi, hd'⟩ := rd_drop hd
    have hxm : x ∈ F := List.mem_of_mem_drop (show x ∈ F.drop i by rw [hd]; exact List.mem_cons_self)
    exact whole_step hF hok hlen (by omega) x l i q n hx hi hxm i1 hq q2 n1 un (fun h2 n n1 un => ih (i + 1) x.f0 n hd' (by omega) (by rw [show i + 1 - 1 = i from rfl, hx]) h2 n1 un)
end
end Go.Proofs.Ytcphlhphdpjnfaa.XT
end
section
namespace Go.Proofs.Ytcphlhphdpjnfaa.XT
open Go.Proofs.Ytcphlhphdpjnfaa.XS
open Go Go.RowKit Go.Proofs.YtcphlhphdpjnfaaW.PrintWords Go.Proofs.YtcphlhphdpjnfaaW.PrintLast Go.Proofs.YtcphlhphdpjnfaaW.PrintMore Go.Proofs.Ytcphlhphdpjnfaa.Given Go.Proofs.Ytcphlhphdpjnfaa.Given04 Go.Proofs.Ytcphlhphdpjnfaa.M Go.Proofs.Ytcphlhphdpjnfaa.Mont
def wholeS (A : Int → Bool) (P : Int) : List (Int × Int) → Bool
  | [] => false
  | x :: t => (decide ((x :: t).length ≤ 16) && (x.1 == 2)) && (decide (1 ≤ x.2) && decide (x.2 ≤ 62)) && wr A (P - 1) 2 t (2 ^ x.2.toNat)
theorem wholeS_cons {A : Int → Bool} {P : Int} {x : Int × Int} {t : List (Int × Int)} : wholeS A P (x :: t) = ((decide ((x :: t).length ≤ 16) && (x.1 == 2)) && (decide (1 ≤ x.2) && decide (x.2 ≤ 62)) && wr A (P - 1) 2 t (2 ^ x.2.toNat)) := rfl
theorem ft : ¬ (false = true) := Bool.false_ne_true
section
variable {ahead : List S45} {F : List S33} {P G : Int}
theorem whole_j0t : Ev (fun k => proof_whole.j0 k ahead true P G F) false :=
  Ev.step (f := fun _ => some false) (fun k => by simp [proof_whole.j0]) (Ev.now _)
theorem whole_ev (hok : okL (F.map p59)) (hP : 1 ≤ P) (hP2 : P < 18446744073709551616) : Ev (fun k => proof_whole.f k ahead P G F) (wholeS (hasP ahead) P (F.map p59)) := by
  match F, hok with
  | [], _ =>
    refine Ev.congr (fun k => ?_) (whole_j0t (ahead := ahead) (F := []) (P := P) (G := G))
    unfold proof_whole.f
    rw [if_pos (by simp)]
  | x :: t, hok =>
    obtain ⟨F, hF⟩ : ∃ F, F = x :: t := ⟨_, rfl⟩
    have hlen : F.length = t.length + 1 := by rw [hF]; rfl
    by_cases h16 : F.length > 16
    · have e : wholeS (hasP ahead) P ((x :: t).map p59) = false := by
        have : ¬ ((x :: t).map p59).length ≤ 16 := by rw [← hF]; simp; omega
        rw [List.map_cons] at this ⊢
        rw [wholeS_cons, decide_eq_false this]
        simp
      rw [e, ← hF]
      have p : (F.length : Int) > 16 := by omega
      have p' : ¬ (F.length : Int) = 0 := by omega
      refine Ev.congr (fun k => ?_) (whole_j0t (ahead := ahead) (F := F) (P := P) (G := G))
      unfold proof_whole.f
      rw [if_neg p', if_pos p]
    have p : ¬ (F.length : Int) > 16 := by omega
    have p' : ¬ (F.length : Int) = 0 := by omega
    have p0 : 0 < (F.length : Int) := by omega
    have p16 : F.length ≤ 16 := by omega
    have l16 : ((x :: t).map p59).length ≤ 16 := by rw [← hF]; simpa using p16
    have h0 : rd_T33 F 0 = x := by rw [hF]; rfl
    have hxo : okP (p59 x) := hok _ (by simp)
    have ux : U x.f0 := hxo.1
    have hok' : okL (F.map p59) := by rw [hF]; exact hok
    clear hlen
    by_cases h2 : x.f0 = 2
    · have L0 : Ev (fun k => proof_whole.l0 k ahead 1 F (F.length : Int) 0 P G F) (wholeS (hasP ahead) P ((x :: t).map p59)) := by
        by_cases h1 : x.f1 < 1
        · have e : wholeS (hasP ahead) P ((x :: t).map p59) = false := by
            rw [List.map_cons, wholeS_cons, decide_eq_false (show ¬ 1 ≤ (p59 x).2 by show ¬ 1 ≤ x.f1; omega)]; simp
          rw [e]
          refine Ev.step (fun k => ?_) (whole_j2t (ahead := ahead) (F := F) (P := P) (G := G) (n := 1) (i := 0) (len := (F.length : Int)) (i2 := 0) (Q := x.f0) (E := x.f1))
          simp only [proof_whole.l0]
          rw [if_pos p0, if_pos (Int.le_refl 0), if_pos p0, h0, if_pos h1]
        by_cases h3 : x.f1 > 62
        · have e : wholeS (hasP ahead) P ((x :: t).map p59) = false := by
            rw [List.map_cons, wholeS_cons, decide_eq_false (show ¬ (p59 x).2 ≤ 62 by show ¬ x.f1 ≤ 62; omega)]; simp
          rw [e]
          refine Ev.step (fun k => ?_) (whole_j2t (ahead := ahead) (F := F) (P := P) (G := G) (n := 1) (i := 0) (len := (F.length : Int)) (i2 := 0) (Q := x.f0) (E := x.f1))
          simp only [proof_whole.l0]
          rw [if_pos p0, if_pos (Int.le_refl 0), if_pos p0, h0, if_neg h1, decide_eq_true h3]
        have hm : P - 1 < 18446744073709551616 := by omega
        have e1 : 1 ≤ x.f1 := by omega
        have e2 : x.f1 ≤ 62 := by omega
        have e3 : (0 : Int) + (x.f1.toNat : Nat) = x.f1 := by omega
        have q2 : 2 ≤ x.f0 := by omega
        have w2 : wrap64 ((0 : Int) + 1) = ((1 : Nat) : Int) := by rw [w64_id _ (by omega) (by omega)]; rfl
        have hd : F.drop 1 = t := by rw [hF]; rfl
        have hr : (rd_T33 F ((1 - 1 : Nat) : Int)).f0 = x.f0 := by rw [← h0]; rfl
        have L1 := whole_l1 (ahead := ahead) (F := F) (P := P) (G := G) (len := (F.length : Int)) (i := 0) (Q := x.f0) (E := x.f1) (l := t.map p59) hm q2 ux e1 e2
          (fun n n1 un => by rw [w2]; exact whole_l0 p16 hok' hP hP2 rfl t 1 x.f0 n hd (Nat.le_refl 1) hr q2 n1 un) x.f1.toNat 0 1 (Int.le_refl 0) e3 (Int.le_refl 1) (by unfold U; omega)
        have e : wholeS (hasP ahead) P ((x :: t).map p59) = wr (hasP ahead) (P - 1) x.f0 (t.map p59) (1 * x.f0 ^ x.f1.toNat) := by
          rw [List.map_cons] at l16 ⊢
          rw [wholeS_cons, decide_eq_true l16]
          simp [p59, h2, e1, e2]
        rw [e]
        refine Ev.step (f := fun k => proof_whole.j2 k ahead 1 0 F (F.length : Int) 0 false P G F x.f0 x.f1) (fun k => ?_) (Ev.step (f := fun k => proof_whole.j3 k ahead 1 F (F.length : Int) 0 false P G F x.f0 x.f1) (fun k => ?_) (Ev.step (fun k => ?_) L1))
        · simp only [proof_whole.l0]
          rw [if_pos p0, if_pos (Int.le_refl 0), if_pos p0, h0, if_neg h1, decide_eq_false h3]
        · simp only [proof_whole.j2]
          rw [if_neg ft, if_neg (Int.lt_irrefl 0)]
        · simp only [proof_whole.j3]
          rw [if_neg ft]
      rw [hF] at L0 p p' p0 h0
      refine Ev.congr (fun k => ?_) (Ev.step (g := fun k => proof_whole.j0 k ahead false P G (x :: t)) (fun k => ?_) L0)
      · unfold proof_whole.f
        rw [if_neg p', if_neg p, if_pos p0, h0, h2]
        rfl
      · simp only [proof_whole.j0]
        rw [if_neg ft]
    · have e : wholeS (hasP ahead) P ((x :: t).map p59) = false := by
        rw [List.map_cons, wholeS_cons, show ((p59 x).1 == 2) = false from beq_eq_false_iff_ne.mpr h2]; simp
      rw [e, ← hF]
      refine Ev.congr (fun k => ?_) (whole_j0t (ahead := ahead) (F := F) (P := P) (G := G))
      unfold proof_whole.f
      rw [if_neg p', if_neg p, if_pos p0, h0, show (x.f0 != 2) = true by simp [bne, h2]]
def fullS (P G : Int) (l : List (Int × Int)) : Bool := (G ^ (P - 1).toNat % P == 1) && !(l.any fun x => G ^ ((P - 1) / x.1).toNat % P == 1)
def fits (P G : Int) : Prop := P % 2 = 1 ∧ 3 ≤ P ∧ P < 9223372036854775808 ∧ 2 ≤ G ∧ G < P
instance : Decidable (fits P G) := by unfold fits; infer_instance
def rightS (A : Int → Bool) (prev : Option Int) (P G : Int) (l : List (Int × Int)) : Bool :=
  (decide (fits P G) && (match prev with | none => true | some q => decide (q < P))) && (wholeS A P l && fullS P G l)
theorem wr_two {A : Int → Bool} {m : Int} : ∀ (l : List (Int × Int)) (q n : Int), 2 ≤ q → wr A m q l n = true → ∀ x ∈ l, 2 ≤ x.1
  | [], _, _, _, _ => by simp
  | y :: l, q, n, hq, h => by
    unfold wr at h
    simp only [Bool.and_eq_true, decide_eq_true_eq] at h
    obtain ⟨⟨_, h2, _⟩, h3⟩ := h
    intro x hx
    rcases List.mem_cons.1 hx with rfl | hx
    · omega
    · exact wr_two l y.1 _ (by omega) h3 x hx
theorem wholeS_two {A : Int → Bool} {P : Int} {l : List (Int × Int)} (h : wholeS A P l = true) : ∀ x ∈ l, 2 ≤ x.1 := by
  match l, h with
  | y :: t, h =>
    unfold wholeS at h
    simp only [Bool.and_eq_true, decide_eq_true_eq, beq_iff_eq] at h
    obtain ⟨⟨⟨_, h2⟩, _⟩, h3⟩ := h
    intro x hx
    rcases List.mem_cons.1 hx with rfl | hx
    · omega
    · exact wr_two t 2 _ (by omega) h3 x hx
theorem full_eq (hf : fits P G) (hw : wholeS (hasP ahead) P (F.map p59) = true) (hok : okL (F.map p59)) : proof_full.f P G F = some (fullS P G (F.map p59)) := by
  unfold proof_full.f
  rw [if_pos]
  · unfold fullS
    rw [List.any_map]
    rfl
  · unfold fits at hf
    refine ⟨⟨hf.1, hf.2.1, hf.2.2.1⟩, by unfold U; omega, fun x hx => ?_⟩
    have h2 := wholeS_two hw (p59 x) (List.mem_map_of_mem hx)
    have hx2 : 2 ≤ x.f0 := h2
    exact ⟨by omega, (hok (p59 x) (List.mem_map_of_mem hx)).1⟩
theorem right_j0t : Ev (fun k => proof_right.j0 k ahead true P G F) false :=
  Ev.step (f := fun _ => some false) (fun k => by simp [proof_right.j0]) (Ev.now _)
theorem right_j1t : Ev (fun k => proof_right.j1 k ahead true P G F) false :=
  Ev.step (f := fun _ => some false) (fun k => by simp [proof_right.j1]) (Ev.now _)
def lastP (l : List S45) : Option Int := l.getLast?.map fun e => e.f0
theorem last_rd {l : List S45} (h : l ≠ []) : lastP l = some (rd_T45 l ((l.length - 1 : Nat) : Int)).f0 := by
  unfold lastP rd_T45
  have hlt : l.length - 1 < l.length := by have := List.length_pos_iff.2 h; omega
  rw [List.getLast?_eq_getElem?, List.getElem?_eq_getElem hlt]
  simp [List.getD, List.getElem?_eq_getElem hlt]
theorem right_ev (hok : okL (F.map p59)) (uP : U P) (hl : ahead.length ≤ 1000) : Ev (fun k => proof_right.f k ahead P G F) (rightS (hasP ahead) (lastP ahead) P G (F.map p59)) := by
  by_cases hf : fits P G
  · -- the last one's check
    have hP1 : 1 ≤ P := by unfold fits at hf; omega
    have hb : Ev (fun k => proof_right.j1 k ahead false P G F) (wholeS (hasP ahead) P (F.map p59) && fullS P G (F.map p59)) := by
      have hw := whole_ev (ahead := ahead) (F := F) (P := P) (G := G) hok hP1 uP.2
      cases h : wholeS (hasP ahead) P (F.map p59) with
      | false =>
        rw [h] at hw
        refine Ev.step (f := fun k => (proof_whole.f k ahead P G F).bind fun t111 => (if t111 = true then ((proof_full.f P G F).bind fun t112 => (some t112)) else (some false))) (fun k => ?_) (Ev.bind hw ?_)
        · simp only [proof_right.j1]; rw [if_neg ft]
        · exact evN ft (Ev.now _)
      | true =>
        have e := full_eq (ahead := ahead) hf h hok
        rw [h] at hw
        rw [Bool.true_and]
        refine Ev.step (f := fun k => (proof_whole.f k ahead P G F).bind fun t111 => (if t111 = true then ((proof_full.f P G F).bind fun t112 => (some t112)) else (some false))) (fun k => ?_) (Ev.bind hw ?_)
        · simp only [proof_right.j1]; rw [if_neg ft]
        · refine evP rfl ?_
          rw [e]
          exact Ev.now _
    have hj : Ev (fun k => proof_right.j0 k ahead false P G F) (rightS (hasP ahead) (lastP ahead) P G (F.map p59)) := by
      unfold rightS
      rw [decide_eq_true hf, Bool.true_and]
      by_cases hz : ahead = []
      · have hl0 : ¬ (ahead.length : Int) > 0 := by rw [hz]; simp
        have : lastP ahead = none := by rw [hz]; rfl
        rw [this, Bool.true_and]
        refine Ev.step (fun k => ?_) hb
        simp only [proof_right.j0]
        rw [if_neg ft, if_neg hl0]
      · have hp := List.length_pos_iff.2 hz
        have q0 : (ahead.length : Int) > 0 := by omega
        have w : wrap64 ((ahead.length : Int) - 1) = ((ahead.length - 1 : Nat) : Int) := by rw [w64_id _ (by omega) (by omega)]; omega
        have q1 : 0 ≤ ((ahead.length - 1 : Nat) : Int) := by omega
        have q2 : ((ahead.length - 1 : Nat) : Int) < (ahead.length : Int) := by omega
        rw [last_rd hz]
        by_cases c : (rd_T45 ahead ((ahead.length - 1 : Nat) : Int)).f0 ≥ P
        · rw [show (match some (rd_T45 ahead ((ahead.length - 1 : Nat) : Int)).f0 with | none => true | some q => decide (q < P)) = false from decide_eq_false (by omega), Bool.false_and]
          refine Ev.step (fun k => ?_) (right_j1t (ahead := ahead) (F := F) (P := P) (G := G))
          simp only [proof_right.j0]
          rw [if_neg ft, if_pos q0, w, if_pos q1, if_pos q2, decide_eq_true c]
        · rw [show (match some (rd_T45 ahead ((ahead.length - 1 : Nat) : Int)).f0 with | none => true | some q => decide (q < P)) = true from decide_eq_true (by omega), Bool.true_and]
          refine Ev.step (fun k => ?_) hb
          simp only [proof_right.j0]
          rw [if_neg ft, if_pos q0, w, if_pos q1, if_pos q2, decide_eq_false c]
    refine Ev.congr (fun k => ?_) hj
    unfold fits at hf
    have c1 : ¬ P % 2 = 0 := by omega
    have c2 : ¬ P < 3 := by omega
    have c3 : ¬ P ≥ 9223372036854775808 := by omega
    have c4 : ¬ G < 2 := by omega
    have c5 : ¬ G ≥ P := by omega
    unfold proof_right.f
    rw [and1 P uP, if_neg c1, if_neg c2, if_neg c3, if_neg c4, decide_eq_false c5]
  · have e : rightS (hasP ahead) (lastP ahead) P G (F.map p59) = false := by
      unfold rightS; rw [decide_eq_false hf, Bool.false_and, Bool.false_and]
    rw [e]
    refine Ev.congr (fun k => ?_) (right_j0t (ahead := ahead) (F := F) (P := P) (G := G))
    unfold proof_right.f
    rw [and1 P uP]
    by_cases c1 : P % 2 = 0
    · rw [if_pos c1]
    by_cases c2 : P < 3
    · rw [if_neg c1, if_pos c2]
    by_cases c3 : P ≥ 9223372036854775808
    · rw [if_neg c1, if_neg c2, if_pos c3]
    by_cases c4 : G < 2
    · rw [if_neg c1, if_neg c2, if_neg c3, if_pos c4]
    have c5 : G ≥ P := by unfold fits at hf; omega
    rw [if_neg c1, if_neg c2, if_neg c3, if_neg c4, decide_eq_true c5]
end
def firstBad (r : Nat → Bool) : Nat → Nat → Int × Int
  | 0, _ => (0, 0)
  | d + 1, i => if r i then firstBad r d (i + 1) else ((i : Int), 3)
def tri (e : S45) : Int × Int × List (Int × Int) := (e.f0, e.f1, e.f2.map p59)
def okE (e : Int × Int × List (Int × Int)) : Prop := U e.1 ∧ U e.2.1 ∧ okL e.2.2
def rightAt (L : List (Int × Int × List (Int × Int))) (i : Nat) : Bool :=
  match L[i]? with
  | none => false
  | some e => rightS (fun q => (L.take i).any fun a => a.1 == q) ((L.take i).getLast?.map fun a => a.1) e.1 e.2.1 e.2.2
theorem hasP_tri (l : List S45) : hasP l = fun q => (l.map tri).any fun a => a.1 == q := by
  funext q
  unfold hasP
  rw [List.any_map]
  rfl
theorem lastP_tri (l : List S45) : lastP l = (l.map tri).getLast?.map fun a => a.1 := by
  unfold lastP
  rw [List.getLast?_map, Option.map_map]
  rfl
theorem check_l0 (L : List S45) (hok : ∀ e ∈ L.map tri, okE e) (hl : L.length ≤ 1000) : ∀ (d i : Nat), i + d = L.length → Ev (fun k => proof_Check.l0 k L L (L.length : Int) i) (firstBad (rightAt (L.map tri)) d i) := by
  intro d
  induction d with
  | zero =>
    intro i hi
    refine Ev.step (f := fun _ => some (0, 0)) (fun k => ?_) (Ev.now _)
    simp only [proof_Check.l0]
    rw [if_neg (by omega)]
  | succ d ih =>
    intro i hi
    have hlt : i < L.length := by omega
    have q1 : (i : Int) < (L.length : Int) := by omega
    have q2 : 0 ≤ (i : Int) := by omega
    have q3 : (i : Int) ≤ (L.length : Int) := by omega
    have w : wrap64 ((i : Int) + 1) = ((i + 1 : Nat) : Int) := by rw [w64_id _ (by omega) (by omega)]; omega
    have hrd : rd_T45 L (i : Int) = L[i] := by unfold rd_T45; simp [List.getD, List.getElem?_eq_getElem hlt]
    have hmem : tri L[i] ∈ L.map tri := List.mem_map_of_mem (List.getElem_mem hlt)
    have ho := hok _ hmem
    have E := right_ev (ahead := L.take i) (F := L[i].f2) (P := L[i].f0) (G := L[i].f1) ho.2.2 ho.1 (by simp; omega)
    have hr : rightS (hasP (L.take i)) (lastP (L.take i)) L[i].f0 L[i].f1 (L[i].f2.map p59) = rightAt (L.map tri) i := by
      unfold rightAt
      rw [List.getElem?_map, List.getElem?_eq_getElem hlt, Option.map_some, hasP_tri, lastP_tri, List.map_take]
      rfl
    rw [hr] at E
    have IH := ih (i + 1) (by omega)
    refine Ev.step (f := fun k => (proof_right.f k (L.take i) L[i].f0 L[i].f1 L[i].f2).bind fun t119 => (if t119 = true then (proof_Check.l0 k L L (L.length : Int) ((i + 1 : Nat) : Int)) else (some ((i : Int), 3)))) (fun k => ?_) (Ev.bind E ?_)
    · simp only [proof_Check.l0]
      rw [if_pos q1, if_pos q2, if_pos q1, if_pos q3, hrd, w, Int.toNat_natCast]
    · unfold firstBad
      cases rightAt (L.map tri) i with
      | true => exact evP rfl IH
      | false => exact evN ft (Ev.now _)
def checkS (L : List (Int × Int × List (Int × Int))) : Int × Int := if (L.length : Int) > 32 then (0, 13) else firstBad (rightAt L) L.length 0
theorem check_ev (L : List S45) (hok : ∀ e ∈ L.map tri, okE e) : Ev (fun k => proof_Check.f k L) (checkS (L.map tri)) := by
  unfold checkS
  rw [List.length_map]
  by_cases h : (L.length : Int) > 32
  · rw [if_pos h]
    refine Ev.congr (fun k => ?_) (Ev.now _)
    unfold proof_Check.f
    rw [if_pos h]
  · rw [if_neg h]
    refine Ev.congr (fun k => ?_) (check_l0 L hok (by omega) L.length 0 (by omega))
    unfold proof_Check.f
    rw [if_neg h]
    rfl
end Go.Proofs.Ytcphlhphdpjnfaa.XT
end
section
namespace Go.Proofs.Ytcphlhphdpjnfaa.XT
open Go.Proofs.Ytcphlhphdpjnfaa.XS
open Go Go.RowKit Go.Proofs.YtcphlhphdpjnfaaW.PrintWords Go.Proofs.YtcphlhphdpjnfaaW.PrintLast Go.Proofs.YtcphlhphdpjnfaaW.PrintMore Go.Proofs.Ytcphlhphdpjnfaa.Given Go.Proofs.Ytcphlhphdpjnfaa.Given04 Go.Proofs.Ytcphlhphdpjnfaa.M Go.Proofs.Ytcphlhphdpjnfaa.Mont Go.Proofs.Ytcphlhphdpjnfaa.Num
theorem pow_cast (g p n : Nat) : ((g : Int) ^ n % (p : Int) = 1) ↔ g ^ n % p = 1 := by
  rw [← Int.natCast_pow, ← Int.natCast_emod]
  exact ⟨fun h => by exact_mod_cast h, fun h => by rw [h]; rfl⟩
def Ordered (P G : Int) : Prop := 3 ≤ P ∧ ∀ x : Nat, G.toNat ^ x % P.toNat = 1 ↔ P.toNat - 1 ∣ x
theorem Ordered.prime {P G : Int} (h : Ordered P G) : Prime P.toNat := prime_of_order (by have := h.1; omega) h.2
end Go.Proofs.Ytcphlhphdpjnfaa.XT
end
section
namespace Go.Proofs.Ytcphlhphdpjnfaa.Row05
open Go Go.RowKit Go.Proofs.YtcphlhphdpjnfaaW.PrintWords Go.Proofs.YtcphlhphdpjnfaaW.PrintLast Go.Proofs.YtcphlhphdpjnfaaW.PrintMore Go.Proofs.Ytcphlhphdpjnfaa.Given Go.Proofs.Ytcphlhphdpjnfaa.M Go.Proofs.Ytcphlhphdpjnfaa.XS Go.Proofs.Ytcphlhphdpjnfaa.XT Go.Proofs.Ytcphlhphdpjnfaa.Given05 Go.Proofs.Ytcphlhphdpjnfaa.Given04 Go.Proofs.Ytcphlhphdpjnfaa.Num Go.Proofs.Ytcphlhphdpjnfaa.Count05
structure Rows (p : Nat) (ss : List Nat) : Prop where
  rising : ss.Pairwise (· < ·)
  odd : ∀ q ∈ ss, OddN q
  le : ∀ q ∈ ss, q ≤ p
  mem : p ∈ ss
  closed : ∀ q ∈ ss, ∀ x ∈ facs q, x.1 = 2 ∨ x.1 ∈ ss
  short : ss.length ≤ 12
open Classical in
theorem row_ev {p : Nat} (hp : OddN p) : ∃ ss : List Nat, Rows p ss ∧ Ev (fun k => sieve_Row.f k (p : Int)) (ss.map entS, 0) := by
  have hsz := sz_le hp.1 hp.2.1 hp.odd
  obtain ⟨xs, l1, l2, l3, l4, l5⟩ := gather_ev 17 p [] (.inr hp) ⟨by simp, by simp, by simp⟩ (by show 0 + _ < 1000; omega)
  rw [List.nil_append] at l3 l4 l5
  have hpx : p ∈ xs := l3.resolve_left (by have := hp.1; omega)
  obtain ⟨ss, hss⟩ : ∃ ss, ss = xs.mergeSort (fun a b => decide (a ≤ b)) := ⟨_, rfl⟩
  have hperm : ss.Perm xs := hss ▸ List.mergeSort_perm _ _
  have hsorted : ss.Pairwise (· ≤ ·) := by
    have := List.pairwise_mergeSort (le := fun a b : Nat => decide (a ≤ b)) (fun a b c h1 h2 => by simp only [decide_eq_true_eq] at *; omega) (fun a b => by simp only [Bool.or_eq_true, decide_eq_true_eq]; omega) xs
    rw [hss]
    exact this.imp fun h => by simpa using h
  have hnd : ss.Nodup := hperm.nodup_iff.2 l4.nodup
  have hk : keysS (xs.map entS) = ss.map fun (q : Nat) => (q : Int) := by
    refine sorted_eq ((keysS_perm _).trans ?_) (keysS_sorted _) ?_
    · rw [List.map_map]
      exact (hperm.map _).symm
    · rw [List.pairwise_map]
      exact hsorted.imp fun h => by omega
  have hlook : (keysS (xs.map entS)).map (look (xs.map entS)) = ss.map entS := by
    rw [hk, List.map_map]
    refine List.map_congr_left fun q hq => ?_
    have hq' : (q : Int) ∈ (xs.map entS).map fun e => e.f0 := by
      rw [List.map_map]
      exact List.mem_map.2 ⟨q, hperm.mem_iff.1 hq, rfl⟩
    obtain ⟨h1, h2⟩ := look_of hq'
    obtain ⟨q', _, h3⟩ := List.mem_map.1 h1
    show look (xs.map entS) (q : Int) = entS q
    rw [← h3] at h2 ⊢
    have h2 : (q' : Int) = (q : Int) := h2
    rw [show q' = q by omega]
  have hok : okRow (xs.map entS) := by
    refine ⟨by rw [List.length_map]; omega, ?_, fun e he => ?_⟩
    · rw [List.map_map, List.nodup_iff_pairwise_ne, List.pairwise_map]
      refine (List.nodup_iff_pairwise_ne.1 l4.nodup).imp ?_
      intro a b h h'
      have h' : (a : Int) = (b : Int) := h'
      omega
    · obtain ⟨q, hq, rfl⟩ := List.mem_map.1 he
      have := (l4.odd q hq).2.1
      show U (q : Int)
      unfold U; omega
  refine ⟨ss, ⟨hsorted.imp₂ (fun a b h h' => Nat.lt_of_le_of_ne h h') (List.nodup_iff_pairwise_ne.1 hnd), fun q hq => l4.odd q (hperm.mem_iff.1 hq), fun q hq => l2 q (hperm.mem_iff.1 hq), hperm.mem_iff.2 hpx, fun q hq x hx => ?_, by rw [hperm.length_eq]; omega⟩, ?_⟩
  · rcases l4.closed q (hperm.mem_iff.1 hq) x hx with e | e
    · exact .inl e
    · exact .inr (hperm.mem_iff.2 e)
  · have O := odd_ev (p : Int)
    rw [decide_eq_true hp.int] at O
    refine Ev.congr (fun k => rfl) (Ev.bind O (evP rfl (Ev.bind l5 ?_)))
    rw [hlook]
    exact evP hok (Ev.now _)
open Classical in
theorem row_not {x : Int} (h : ¬ OddP x) : Ev (fun k => sieve_Row.f k x) ([], 1) := by
  have O := odd_ev x
  rw [decide_eq_false h] at O
  exact Ev.congr (fun k => rfl) (Ev.bind O (evN (by decide) (Ev.now _)))
def i2 (x : Nat × Nat) : Int × Int := ((x.1 : Int), (x.2 : Int))
theorem tri_ent (q : Nat) : tri (entS q) = ((q : Int), (gen q : Int), (facs q).map i2) := by
  show ((q : Int), (gen q : Int), (m33 (facs q)).map p59) = _
  unfold m33
  rw [List.map_map]
  rfl
theorem prod_ge {l : List (Nat × Nat)} (h : ∀ x ∈ l, 2 ≤ x.1 ∧ 1 ≤ x.2) : 2 ^ l.length ≤ prod l := by
  induction l with
  | nil => exact Nat.le_refl 1
  | cons x l ih =>
    have a := ih fun y hy => h y (List.mem_cons_of_mem _ hy)
    obtain ⟨b, c⟩ := h x List.mem_cons_self
    have : 2 ≤ x.1 ^ x.2 := by
      have h1 := Nat.pow_le_pow_right (show 0 < x.1 by omega) c
      rw [Nat.pow_one] at h1
      omega
    show 2 ^ (l.length + 1) ≤ x.1 ^ x.2 * prod l
    rw [Nat.pow_succ, Nat.mul_comm]
    exact Nat.mul_le_mul this a
theorem pow_le_prod {l : List (Nat × Nat)} (h : ∀ x ∈ l, 2 ≤ x.1) {x : Nat × Nat} (hx : x ∈ l) : 2 ^ x.2 ≤ prod l := by
  have pos : ∀ l : List (Nat × Nat), (∀ x ∈ l, 2 ≤ x.1) → 1 ≤ prod l := by
    intro l
    induction l with
    | nil => intro _; exact Nat.le_refl 1
    | cons y l ih => intro h; exact Nat.mul_pos (Nat.pow_pos (by have := h y List.mem_cons_self; omega)) (ih fun z hz => h z (List.mem_cons_of_mem _ hz))
  induction l with
  | nil => cases hx
  | cons y l ih =>
    show 2 ^ x.2 ≤ y.1 ^ y.2 * prod l
    have hl : ∀ z ∈ l, 2 ≤ z.1 := fun z hz => h z (List.mem_cons_of_mem _ hz)
    rcases List.mem_cons.1 hx with rfl | hx
    · have := Nat.pow_le_pow_left (h x List.mem_cons_self) x.2
      exact Nat.le_trans this (Nat.le_mul_of_pos_right _ (pos l hl))
    · have := ih hl hx
      exact Nat.le_trans this (Nat.le_mul_of_pos_left _ (Nat.pow_pos (by have := h y List.mem_cons_self; omega)))
theorem exp_small {e : Nat} (h : 2 ^ e < 65536) : e ≤ 62 := by
  refine Nat.le_of_not_lt fun c => ?_
  have := Nat.pow_le_pow_right (show 0 < 2 by decide) (show 16 ≤ e by omega)
  rw [show 2 ^ 16 = 65536 by decide] at this
  omega
theorem wr_facs {A : Int → Bool} (m : Nat) : ∀ (l : List (Nat × Nat)) (q n : Nat), (∀ x ∈ l, 1 ≤ x.2 ∧ x.2 ≤ 62 ∧ A (x.1 : Int) = true ∧ q < x.1) → l.Pairwise (fun x y => x.1 < y.1) → n * prod l = m → wr A (m : Int) (q : Int) (l.map i2) (n : Int) = true
  | [], q, n, _, _, h => by
    have : n = m := by rw [← h]; exact (Nat.mul_one n).symm
    subst this
    exact beq_self_eq_true _
  | x :: l, q, n, hx, hp, h => by
    obtain ⟨h1, h2, h3, h4⟩ := hx x List.mem_cons_self
    obtain ⟨hp1, hp2⟩ := List.pairwise_cons.1 hp
    have IH := wr_facs (A := A) m l x.1 (n * x.1 ^ x.2) (fun y hy => ⟨(hx y (List.mem_cons_of_mem _ hy)).1, (hx y (List.mem_cons_of_mem _ hy)).2.1, (hx y (List.mem_cons_of_mem _ hy)).2.2.1, hp1 y hy⟩) hp2 (by rw [Nat.mul_assoc]; exact h)
    show (((decide ((1 : Int) ≤ (x.2 : Int)) && decide ((x.2 : Int) ≤ 62)) && (decide ((q : Int) < (x.1 : Int)) && A (x.1 : Int))) && wr A (m : Int) (x.1 : Int) (l.map i2) ((n : Int) * (x.1 : Int) ^ ((x.2 : Int)).toNat)) = true
    rw [Int.toNat_natCast, ← Int.natCast_pow, ← Int.natCast_mul, IH, h3, decide_eq_true (by omega), decide_eq_true (by omega), decide_eq_true (by omega)]
    rfl
theorem whole_facs {A : Int → Bool} {p : Nat} (hp : OddN p) (hA : ∀ x ∈ facs p, x.1 = 2 ∨ A (x.1 : Int) = true) : wholeS A (p : Int) ((facs p).map i2) = true := by
  have h3 := hp.1
  have h6 := hp.2.1
  obtain ⟨f1, f2, f3⟩ := (facs_of hp).1
  have two : 2 ∣ prod (facs p) := by rw [f3]; have := hp.odd; exact Nat.dvd_of_mod_eq_zero (by omega)
  obtain ⟨y, hy, hd⟩ := Prime.two.dvd_prod _ two
  have y2 : y.1 = 2 := by
    rcases (f1 y hy).1.2 2 hd with e | e
    · omega
    · exact e.symm
  have hlen := prod_ge (l := facs p) fun x hx => ⟨(f1 x hx).1.1, (f1 x hx).2.2⟩
  have hexp : ∀ x ∈ facs p, x.2 ≤ 62 := fun x hx => exp_small (by
    have := pow_le_prod (l := facs p) (fun z hz => (f1 z hz).1.1) hx
    omega)
  have hl16 : (facs p).length ≤ 16 := by
    refine Nat.le_of_not_lt fun c => ?_
    have := Nat.pow_le_pow_right (show 0 < 2 by decide) (show 16 ≤ (facs p).length by omega)
    rw [show 2 ^ 16 = 65536 by decide] at this
    omega
  have hpI : (p : Int) - 1 = ((p - 1 : Nat) : Int) := by omega
  cases hf : facs p with
  | nil => rw [hf] at hy; cases hy
  | cons x t =>
    rw [hf] at f1 f2 f3 hy hexp hl16 hA
    obtain ⟨g1, g2⟩ := List.pairwise_cons.1 f2
    have x2 : x.1 = 2 := by
      rcases List.mem_cons.1 hy with e | e
      · rw [← e]; exact y2
      · have := g1 y e
        have := (f1 x List.mem_cons_self).1.1
        omega
    have hx := f1 x List.mem_cons_self
    have W := wr_facs (A := A) (p - 1) t 2 (2 ^ x.2) (fun z hz => ⟨(f1 z (List.mem_cons_of_mem _ hz)).2.2, hexp z (List.mem_cons_of_mem _ hz), (hA z (List.mem_cons_of_mem _ hz)).resolve_left (by have := g1 z hz; omega), by have := g1 z hz; omega⟩) g2 (by rw [← f3, ← x2]; rfl)
    rw [List.map_cons, wholeS_cons]
    show ((decide ((i2 x :: t.map i2).length ≤ 16) && ((x.1 : Int) == 2)) && (decide ((1 : Int) ≤ (x.2 : Int)) && decide ((x.2 : Int) ≤ 62)) && wr A ((p : Int) - 1) 2 (t.map i2) (2 ^ ((x.2 : Int)).toNat)) = true
    have e1 : ((x.1 : Int) == 2) = true := by rw [x2]; rfl
    have e2 := hexp x List.mem_cons_self
    have W' : wr A ((p : Int) - 1) 2 (t.map i2) (2 ^ ((x.2 : Int)).toNat) = true := by
      rw [hpI, Int.toNat_natCast]
      have : ((2 ^ x.2 : Nat) : Int) = (2 : Int) ^ x.2 := Int.natCast_pow 2 x.2
      rw [← this]
      exact W
    rw [W', e1, decide_eq_true (by rw [List.length_cons, List.length_map]; exact hl16), decide_eq_true (by omega), decide_eq_true (by omega)]
    rfl
theorem full_facs {p : Nat} (hp : OddN p) : fullS (p : Int) (gen p : Int) ((facs p).map i2) = true := by
  have h3 := hp.1
  obtain ⟨r2, rp, hfull, _⟩ := gen_least hp
  obtain ⟨f1, _, _⟩ := (facs_of hp).1
  unfold fullS
  rw [Bool.and_eq_true, beq_iff_eq, Bool.not_eq_true', List.any_eq_false]
  have e1 : ((p : Int) - 1).toNat = p - 1 := by omega
  refine ⟨by rw [e1, pow_cast]; exact (hfull _).2 (Nat.dvd_refl _), fun x hx => ?_⟩
  obtain ⟨y, hy, rfl⟩ := List.mem_map.1 hx
  have y2 := (f1 y hy).1.1
  have e2 : (((p : Int) - 1) / (i2 y).1).toNat = (p - 1) / y.1 := by
    show (((p : Int) - 1) / (y.1 : Int)).toNat = _
    rw [show (p : Int) - 1 = ((p - 1 : Nat) : Int) by omega, ← Int.natCast_ediv, Int.toNat_natCast]
  rw [beq_iff_eq, e2, pow_cast, hfull]
  intro h
  have dv := (facs_of hp).1.le (by omega) hy
  have a := Nat.div_lt_self (show 0 < p - 1 by omega) (show 1 < y.1 by omega)
  have b := Nat.div_pos (Nat.le_of_dvd (by omega) dv) (show 0 < y.1 by omega)
  have := Nat.le_of_dvd b h
  omega
theorem right_all {p : Nat} {ss : List Nat} (h : Rows p ss) : ∀ i, i < ss.length → rightAt ((ss.map entS).map tri) i = true := by
  intro i hi
  have e0 : (ss.map entS).map tri = ss.map fun (q : Nat) => ((q : Int), (gen q : Int), (facs q).map i2) := by
    rw [List.map_map]; exact List.map_congr_left fun q _ => tri_ent q
  have hget : ((ss.map entS).map tri)[i]? = some ((ss[i] : Int), (gen ss[i] : Int), (facs ss[i]).map i2) := by
    rw [e0, List.getElem?_map, List.getElem?_eq_getElem hi]; rfl
  unfold rightAt
  rw [hget]
  have hq := h.odd ss[i] (List.getElem_mem hi)
  obtain ⟨r2, rp, _, _⟩ := gen_least hq
  have hlt : ∀ j (hj : j < i), ss[j]'(by omega) < ss[i] := fun j hj => List.pairwise_iff_getElem.1 h.rising j i (by omega) hi hj
  have hA : ∀ x ∈ facs ss[i], x.1 = 2 ∨ (((ss.map entS).map tri).take i).any (fun a => a.1 == (x.1 : Int)) = true := fun x hx => by
    rcases h.closed _ (List.getElem_mem hi) x hx with e | e
    · exact .inl e
    · refine .inr ?_
      have hxp := (fac_odd hq hx).1
      obtain ⟨j, hj, hje⟩ := List.mem_iff_getElem.1 e
      have hji : j < i := by
        refine Nat.lt_of_not_le fun c => ?_
        rcases Nat.lt_or_ge i j with d | d
        · have := List.pairwise_iff_getElem.1 h.rising i j hi hj d; omega
        · have : i = j := by omega
          subst this; omega
      rw [e0, ← List.map_take, List.any_map, List.any_eq_true]
      refine ⟨x.1, ?_, beq_self_eq_true _⟩
      rw [← hje]
      exact List.mem_take_iff_getElem.2 ⟨j, by omega, rfl⟩
  have hw := whole_facs (A := fun q => (((ss.map entS).map tri).take i).any (fun a => a.1 == q)) hq hA
  have hf := full_facs hq
  show rightS _ _ (ss[i] : Int) (gen ss[i] : Int) ((facs ss[i]).map i2) = true
  unfold rightS
  have hfit : fits (ss[i] : Int) (gen ss[i] : Int) := ⟨by have := hq.odd; omega, by have := hq.1; omega, by have := hq.2.1; omega, by omega, by omega⟩
  rw [hw, hf, decide_eq_true hfit]
  cases i with
  | zero => rfl
  | succ i =>
    have hl := hlt i (by omega)
    have : ((((ss.map entS).map tri).take (i + 1)).getLast?.map fun a => a.1) = some (ss[i] : Int) := by
      rw [e0, ← List.map_take, List.take_succ_eq_append_getElem (by omega), List.map_append]
      simp
    rw [this]
    simp only [Bool.true_and, Bool.and_true, Bool.and_self]
    exact decide_eq_true (by omega)
theorem firstBad_none {r : Nat → Bool} (d : Nat) : ∀ i, (∀ j, i ≤ j → j < i + d → r j = true) → firstBad r d i = (0, 0) := by
  induction d with
  | zero => intro i _; rfl
  | succ d ih =>
    intro i h
    unfold firstBad
    rw [if_pos (h i (Nat.le_refl _) (by omega))]
    exact ih (i + 1) fun j a b => h j (by omega) (by omega)
theorem row_okE {p : Nat} {ss : List Nat} (h : Rows p ss) : ∀ e ∈ (ss.map entS).map tri, okE e := by
  intro e he
  rw [List.map_map] at he
  obtain ⟨q, hq, rfl⟩ := List.mem_map.1 he
  have ho := h.odd q hq
  obtain ⟨r2, rp, _, _⟩ := gen_least ho
  have h6 := ho.2.1
  show okE (tri (entS q))
  rw [tri_ent]
  refine ⟨⟨by show (0 : Int) ≤ (q : Int); omega, by show (q : Int) < _; omega⟩, ⟨by show (0 : Int) ≤ (gen q : Int); omega, by show (gen q : Int) < _; omega⟩, fun x hx => ?_⟩
  obtain ⟨y, hy, rfl⟩ := List.mem_map.1 hx
  have hf := (facs_of ho).1
  have := Nat.le_of_dvd (by have := ho.1; omega) (hf.le (by have := ho.1; omega) hy)
  have e2 := exp_small (e := y.2) (by
    have := pow_le_prod (l := facs q) (fun z hz => (hf.1 z hz).1.1) hy
    rw [hf.2.2] at this
    have := ho.1
    omega)
  exact ⟨⟨by show (0 : Int) ≤ (y.1 : Int); omega, by show (y.1 : Int) < _; omega⟩, by show _ ≤ (y.2 : Int); omega, by show (y.2 : Int) < _; omega⟩
theorem row_check {p : Nat} {ss : List Nat} (h : Rows p ss) : Ev (fun k => proof_Check.f k (ss.map entS)) (0, 0) := by
  have C := check_ev (ss.map entS) (row_okE h)
  have : checkS ((ss.map entS).map tri) = (0, 0) := by
    unfold checkS
    have hs := h.short
    have e : ((ss.map entS).map tri).length = ss.length := by rw [List.length_map, List.length_map]
    rw [e, if_neg (by omega)]
    exact firstBad_none _ 0 fun j _ hj => right_all h j (by omega)
  rw [this] at C
  exact C
end Go.Proofs.Ytcphlhphdpjnfaa.Row05
end
section
namespace Go.Proofs.Ytcphlhphdpjnfaa.Pure
open Go Go.RowKit Go.Proofs.YtcphlhphdpjnfaaW.PrintWords Go.Proofs.YtcphlhphdpjnfaaW.PrintLast Go.Proofs.YtcphlhphdpjnfaaW.PrintMore Go.Proofs.Ytcphlhphdpjnfaa.Given Go.Proofs.Ytcphlhphdpjnfaa.M Go.Proofs.Ytcphlhphdpjnfaa.XS Go.Proofs.Ytcphlhphdpjnfaa.XT Go.Proofs.Ytcphlhphdpjnfaa.Given05 Go.Proofs.Ytcphlhphdpjnfaa.Given04 Go.Proofs.Ytcphlhphdpjnfaa.Num Go.Proofs.Ytcphlhphdpjnfaa.Row05
theorem rd_ent {ss : List Nat} {i : Nat} (h : i < ss.length) : rd_T45 (ss.map entS) (i : Int) = entS ss[i] := by
  unfold rd_T45
  rw [Int.toNat_natCast, List.getD_eq_getElem?_getD, List.getElem?_map, List.getElem?_eq_getElem h]; rfl
theorem facs_len' {p : Nat} (hp : OddN p) : (m33 (facs p)).length ≤ 1000000 := by
  obtain ⟨f1, f2, f3⟩ := (facs_of hp).1
  have h3 := hp.1
  have h6 := hp.2.1
  have hlen := prod_ge (l := facs p) fun x hx => ⟨(f1 x hx).1.1, (f1 x hx).2.2⟩
  unfold m33
  rw [List.length_map]
  refine Nat.le_of_not_lt fun c => ?_
  have := Nat.pow_le_pow_right (show 0 < 2 by decide) (show 16 ≤ (facs p).length by omega)
  rw [show 2 ^ 16 = 65536 by decide] at this
  omega
theorem claim_l0 {p : Nat} {ss : List Nat} (h : Row05.Rows p ss) (M : Nat) : ∀ i : Nat, ss.length - i ≤ M → (∃ j, i ≤ j ∧ ∃ hj : j < ss.length, ss[j] = p) →
    Ev (fun k => proof_Claim.l0 k (p : Int) (ss.map entS) ((ss.map entS).length : Int) (i : Int)) ((p : Int), (gen p : Int), m33 (facs p), true) := by
  have hl : (ss.map entS).length = ss.length := List.length_map _
  have hs := h.short
  induction M with
  | zero => intro i h1 ⟨j, h2, h3, _⟩; omega
  | succ M ih =>
    intro i h1 ⟨j, hij, hj, hp⟩
    have hi : i < ss.length := by omega
    have r := rd_ent hi
    have ho := h.odd _ (List.getElem_mem hi)
    have c1 : (i : Int) < ((ss.map entS).length : Int) := by omega
    by_cases c : ss[i] = p
    · have c2 : (rd_T45 (ss.map entS) (i : Int)).f0 = (p : Int) := by rw [r, c]; rfl
      have hpw : proof_Power.f ((rd_T45 (ss.map entS) (i : Int)).f2) = some (m33 (facs p)) := by
        rw [r, c]
        show proof_Power.f (m33 (facs p)) = _
        unfold proof_Power.f
        exact if_pos (facs_len' (c ▸ ho))
      have e1 : (rd_T45 (ss.map entS) (i : Int)).f1 = (gen p : Int) := by rw [r, c]; rfl
      refine Ev.step (f := fun _ => some ((p : Int), (gen p : Int), m33 (facs p), true)) (fun k => ?_) (Ev.now _)
      simp only [proof_Claim.l0]
      rw [if_pos c1, if_pos (by omega), if_pos c1, if_pos c2, hpw, c2, e1]
      rfl
    · have c2 : ¬ (rd_T45 (ss.map entS) (i : Int)).f0 = (p : Int) := by
        rw [r]
        intro e
        have e : (ss[i] : Int) = (p : Int) := e
        omega
      have hw : wrap64 ((i : Int) + 1) = ((i + 1 : Nat) : Int) := by rw [w64_id _ (by omega) (by omega)]; rfl
      have hne : j ≠ i := by rintro rfl; exact c hp
      refine Ev.step (fun k => ?_) (ih (i + 1) (by omega) ⟨j, by omega, hj, hp⟩)
      simp only [proof_Claim.l0]
      rw [if_pos c1, if_pos (by omega), if_pos c1, if_neg c2, hw]
theorem claim_ev {p : Nat} {ss : List Nat} (h : Row05.Rows p ss) : Ev (fun k => proof_Claim.f k (ss.map entS) (p : Int)) ((p : Int), (gen p : Int), m33 (facs p), true) := by
  obtain ⟨j, hj, hp⟩ := List.mem_iff_getElem.1 h.mem
  exact Ev.congr (fun k => rfl) (Ev.bind (row_check h) (evP rfl (claim_l0 h ss.length 0 (by omega) ⟨j, Nat.zero_le _, hj, hp⟩)))
theorem row_last {p : Nat} {ss : List Nat} (h : Row05.Rows p ss) : ∃ hl : 0 < ss.length, ss[ss.length - 1] = p := by
  obtain ⟨j, hj, hp⟩ := List.mem_iff_getElem.1 h.mem
  refine ⟨by omega, ?_⟩
  rcases Nat.lt_or_ge j (ss.length - 1) with c | c
  · have := List.pairwise_iff_getElem.1 h.rising j (ss.length - 1) hj (by omega) c
    have := h.le _ (List.getElem_mem (show ss.length - 1 < ss.length by omega))
    omega
  · have : j = ss.length - 1 := by omega
    subst this
    exact hp
open Classical in
theorem SieveProves : epicyclelaw05_SieveProves.Pure := by
  intro x0 h0
  have u0 := wf_U h0
  refine Ev.rounds ?_
  have O := rOdd_ev x0
  by_cases hp : OddP x0
  · rw [decide_eq_true hp] at O
    obtain ⟨p, rfl⟩ : ∃ p : Nat, x0 = p := ⟨x0.toNat, by have := hp.1; omega⟩
    have hn := OddN.of hp
    obtain ⟨ss, hr, R⟩ := row_ev hn
    obtain ⟨hl, hlast⟩ := row_last hr
    have ll : (ss.map entS).length = ss.length := List.length_map _
    have hs := hr.short
    have hw : wrap64 (((ss.map entS).length : Int) - 1) = ((ss.length - 1 : Nat) : Int) := by rw [w64_id _ (by omega) (by omega)]; omega
    have G := Generator_odd hp (gen_least hn)
    have r := rd_ent (ss := ss) (i := ss.length - 1) (by omega)
    refine Ev.congr (fun k => rfl) (Ev.bind alive_ev (evP rfl (Ev.bind R (Ev.bind O (evP rfl (Ev.bind (row_check hr) (Ev.bind (claim_ev hr) (evP rfl (evP rfl (evP rfl ?_))))))))))
    have c1 : ((ss.map entS).length : Int) > 0 := by omega
    refine evP c1 ?_
    have c2 : (0 : Int) ≤ wrap64 (((ss.map entS).length : Int) - 1) := by rw [hw]; omega
    refine evP c2 ?_
    have c3 : wrap64 (((ss.map entS).length : Int) - 1) < ((ss.map entS).length : Int) := by rw [hw]; omega
    refine evP c3 ?_
    have c4 : (rd_T45 (ss.map entS) (wrap64 (((ss.map entS).length : Int) - 1))).f0 = (p : Int) := by
      rw [hw, r, hlast]; rfl
    refine evP c4 (Ev.bind G ?_)
    have : (((gen p : Int)) == (gen p : Int)) = true := beq_self_eq_true _
    show Ev (fun _ => some ((gen p : Int) == (gen p : Int))) true
    rw [this]
    exact Ev.now _
  · rw [decide_eq_false hp] at O
    exact Ev.congr (fun k => rfl) (Ev.bind alive_ev (evP rfl (Ev.bind (row_not hp) (Ev.bind O (evN (by decide) (Ev.now _))))))
end Go.Proofs.Ytcphlhphdpjnfaa.Pure
end
