/- Parts of this claim's texts, packed by wip/tools/prune.py: what the proof does not reach is left out. -/
import Derived.Test.YtndkmnjbjlfeaaaGreatMI12
section
namespace Go.Proofs.YtndkmnjbjlfeaaaGreat.XM
open Go.RowKit Go.Proofs.YtndkmnjbjlfeaaaGreat.Given Go.Proofs.YtndkmnjbjlfeaaaGreat.Row05 Go.Proofs.YtndkmnjbjlfeaaaGreat.XS Go.Proofs.YtndkmnjbjlfeaaaGreat.XT Go.Proofs.YtndkmnjbjlfeaaaGreat.XR Go.Proofs.YtndkmnjbjlfeaaaGreat.F06 Go.Proofs.YtndkmnjbjlfeaaaGreat.XK Go.Proofs.YtndkmnjbjlfeaaaGreat.XW Go.Proofs.YtndkmnjbjlfeaaaGreat.XG Go.Proofs.YtndkmnjbjlfeaaaGreatW.PrintWords Go.Proofs.YtndkmnjbjlfeaaaGreatW.PrintLast Go.Proofs.YtndkmnjbjlfeaaaGreatW.PrintMore
attribute [local go_sem] max2_int min2_int max_two min_two max_three min_three max_four min_four
set_option linter.unusedVariables false
set_option linter.unusedSimpArgs false
noncomputable def mixed_Run.l0 : Nat → List (Fld) → Bool → List Int → List Int → List Int → Int → Int → Option (List Int × Int)
 | 0, _, _, _, _, _, _, _ => none
 | k + 1, x0, x2, x9, x11, x13, x15, x16 => if x16 ≥ 0 then (if 0 ≤ x16 then (if x16 < (x9.length : Int) then ((mixed_stage_all.f k x0 x11 (rd x9 x16) x15 x13).bind fun t154 => (mixed_Run.l0 k x0 x2 x9 x11 t154 (wrap64 (x15 * (rd x9 x16))) (wrap64 (x16 - 1)))) else (none)) else (none)) else (if x2 = true then ((dft_Scale.f k x0 x13).bind fun t156 => (some (t156, 0))) else (some (x13, 0)))
noncomputable def mixed_Run.f (k : Nat) (l0 : List (Fld)) (l1 : List Int) (a2 : Bool) : Option (List Int × Int) := (dft_Check.f l0 (l1.length : Int) 1024).bind fun t139 => (if t139 = 0 then ((mixed_Radices.f k (l1.length : Int)).bind fun bt140 => (if bt140.2 = true then ((dft_Good.f k l0 l1).bind fun t144 => (if t144 = true then ((twiddle_Lifted.f k l0 (l1.length : Int) a2).bind fun bt145 => ((digits_Order.f k l1 bt140.1).bind fun bt149 => (mixed_Run.l0 k l0 a2 bt140.1 bt145.1 bt149.1 1 (wrap64 ((bt140.1.length : Int) - 1))))) else (some (([] : List Int), 9)))) else (some (([] : List Int), 11)))) else (some (([] : List Int), t139)))
set_option maxHeartbeats 8000000 in
set_option maxRecDepth 100000 in
theorem mixed_Run.calls (k : Nat) (A0 : Option Addr) (c0 : Nat) (l0 : List (Fld)) (A1 : Option Addr) (c1 : Nat) (l1 : List Int) (a2 : Bool) (r1 : List Int) (r2 : Int) (w : World) (hr0 : Kd.C kFld w A0 l0.length l0) (hc0 : l0.length ≤ c0) (hr1 : Kd.C (Kd.int .u64) w A1 l1.length l1) (hc1 : l1.length ≤ c1) (h : mixed_Run.f k l0 l1 a2 = some (r1, r2)) :
  Calls Tryz.prog 33 #[toPtr (.slice A0 l0.length c0), .slice A1 l1.length c1, .bool a2] w fun e w' => ∃ v0_ : Value, e = .returned (.tuple #[v0_, .int .i64 r2]) ∧ Kd.R (Kd.int .u64) 22 w' w.heap.size (fun _ => True) v0_ r1 ∧ Below w.heap.size w w' := by
 have hu104 := Tryz.underlying104
 obtain ⟨oT_HR0, hT_HR0⟩ : ∃ o : Option Addr, toPtr (.slice A0 l0.length c0) = .pointer o := (Nat.eq_zero_or_pos l0.length).elim (fun z_ => ⟨_, pf_none A0 c0 z_⟩) (fun z_ => ⟨_, (pf_some A0 c0 (Nat.ne_of_gt z_)).choose_spec⟩)
 rw [hT_HR0]
 have HR0 := Aside0.mk hr0
 have HC0 := Aside0.mk hc0
 clear hr0 hc0
 have HR1 := Aside0.mk hr1
 have HC1 := Aside0.mk hc1
 clear hr1 hc1
 have HB := Aside0.mk (Below.refl w.heap.size w)
 have H := h; unfold mixed_Run.f at H
 clear h
 replace H := Option.bind_eq_some_iff.mp H
 obtain ⟨t139, A40, H⟩ := H
 (try dsimp only at H)
 have A4 := Aside0.mk A40
 clear A40
 by_cases c5 : t139 = 0
 ·rw [if_pos c5] at H
  have c5b0 := beq_iff_eq.mpr c5
  have c5b1 := bne_eq_false_iff_eq.mpr c5
  clear c5
  replace H := Option.bind_eq_some_iff.mp H
  obtain ⟨⟨t140, t141⟩, A60, H⟩ := H
  (try dsimp only at H)
  have A6 := Aside0.mk A60
  clear A60
  by_cases c7 : t141 = true
  ·subst c7
   have H1 := H; rw [if_pos rfl] at H1
   clear H
   have H := H1
   clear H1
   replace H := Option.bind_eq_some_iff.mp H
   obtain ⟨t144, A80, H⟩ := H
   (try dsimp only at H)
   have A8 := Aside0.mk A80
   clear A80
   by_cases c9 : t144 = true
   ·subst c9
    have H1 := H; rw [if_pos rfl] at H1
    clear H
    have H := H1
    clear H1
    replace H := Option.bind_eq_some_iff.mp H
    obtain ⟨⟨t145, t146⟩, A100, H⟩ := H
    (try dsimp only at H)
    have A10 := Aside0.mk A100
    clear A100
    replace H := Option.bind_eq_some_iff.mp H
    obtain ⟨⟨t149, t150⟩, A110, H⟩ := H
    (try dsimp only at H)
    have A11 := Aside0.mk A110
    clear A110
    have H' := Aside0.mk H
    clear H
    go_enter Tryz.func33, Tryz.ntmps33
    go_wp2_with (first | ((with_reducible refine gate_callee (f := 23) rfl ?_); refine goesL_ (some 20) rfl rfl Tryz.func23 (by kernel_rfl) rfl #[toPtr (.slice A0 l0.length c0), .int .i64 (l1.length : Int), .int .i64 1024] rfl (gaT_ hT_HR0) ?_; (try rw [← hT_HR0]); (with_reducible refine (dft_Check.calls _ _ l0 (l1.length : Int) 1024 t139 _ ?side1 ?side2 A4.out).mono ?_); (case side1 => exact cal_ HR0.out); (case side2 => exact HC0.out); rintro e w' ⟨rfl, ⟨nd, rfl⟩⟩; refine ⟨_, rfl, ?_⟩) | (refine gl_ 27 Tryz.func64 #[.int .i64 (l1.length : Int)] rfl ?_; (with_reducible refine (mixed_Radices.calls k (l1.length : Int) t140 true _ A6.out).mono ?_); rintro e w12 ⟨v142, rfl, ho0, hb⟩; refine ⟨_, rfl, ?_⟩; have n0_ := Aside0.mk (Kd.R_lower ho0 (below_size bel_)); have n1_ := Aside0.mk (below_step bel_ hb); clear HB; have HO143 := n0_; have HB := n1_; clear n0_ n1_; (try clear ho0)) | ((with_reducible refine gate_callee (f := 24) rfl ?_); refine goesL_ (some 34) rfl rfl Tryz.func24 (by kernel_rfl) rfl #[toPtr (.slice A0 l0.length c0), .slice A1 l1.length c1] rfl (gaT_ hT_HR0) ?_; (try rw [← hT_HR0]); (with_reducible refine (dft_Good.calls k _ _ l0 _ _ l1 true _ ?side1 ?side2 ?side3 ?side4 A8.out).mono ?_); (case side1 => exact cal_ (Kd.C_below HR0.out HB.out)); (case side2 => exact HC0.out); (case side3 => exact cal_ (Kd.C_below HR1.out HB.out)); (case side4 => exact HC1.out); rintro e w' ⟨rfl, ⟨nd, rfl⟩⟩; refine ⟨_, rfl, ?_⟩) | ((with_reducible refine gate_callee (f := 66) rfl ?_); refine goesL_ (some 41) rfl rfl Tryz.func66 (by kernel_rfl) rfl #[toPtr (.slice A0 l0.length c0), .int .i64 (l1.length : Int), .bool a2] rfl (gaT_ hT_HR0) ?_; (try rw [← hT_HR0]); (with_reducible refine (twiddle_Lifted.calls k _ _ l0 (l1.length : Int) a2 t145 t146 _ ?side1 ?side2 A10.out).mono ?_); (case side1 => exact cal_ (Kd.C_below HR0.out bel_)); (case side2 => exact HC0.out); rintro e w13 ⟨v147, rfl, ho0, hb⟩; refine ⟨_, rfl, ?_⟩; have n0_ := Aside0.mk (Kd.R_below (rel_ HO143.out) hb); have n1_ := Aside0.mk (Kd.R_lower ho0 (below_size bel_)); have n2_ := Aside0.mk (below_step bel_ hb); clear HO143; clear HB; have HO143 := n0_; have HO148 := n1_; have HB := n2_; clear n0_ n1_ n2_; (try clear ho0); obtain ⟨Ao14, co14, eo14⟩ := Kd.R_slice HO143.out; subst eo14) | (refine gl_ 47 Tryz.func67 #[.slice A1 l1.length c1, .slice Ao14 t140.length co14] rfl ?_; (with_reducible refine (digits_Order.calls k _ _ l1 _ _ t140 t149 t150 _ ?side1 ?side2 ?side3 ?side4 A11.out).mono ?_); (case side1 => exact cal_ (Kd.C_below HR1.out HB.out)); (case side2 => exact HC1.out); (case side3 => repeat (first | exact (Kd.R_reads' HO143.out).2.2 | (with_reducible refine Kd.C_alloc ?_ _) | (with_reducible refine Kd.C_drewN ?_ _) | (with_reducible refine Kd.C_drew ?_))); (case side4 => exact (Kd.R_reads' HO143.out).2.1); rintro e w15 ⟨v151, rfl, ho0, hb⟩; refine ⟨_, rfl, ?_⟩; have n0_ := Aside0.mk (Kd.R_below (rel_ HO143.out) hb); have n1_ := Aside0.mk (Kd.R_elder' (rel_ HO148.out) (Kd.R_base ho0) hb); have n2_ := Aside0.mk (Kd.R_lower (Kd.R_new' ho0 (Kd.R_lt (rel_ HO148.out))) (below_size bel_)); have n3_ := Aside0.mk (below_step bel_ hb); clear HO143; clear HO148; clear HB; have HO143 := n0_; have HO148 := n1_; have HO152 := n2_; have HB := n3_; clear n0_ n1_ n2_ n3_; (try clear ho0)))
    go_loopg [15, 16] k (fun kq v15 v16 w' => ∃ (x13_1 : List Int) (x15_1 : Int) (x16_1 : Int), v15 = .int .i64 x15_1 ∧ v16 = .int .i64 x16_1 ∧ Aside0 (mixed_Run.l0 kq l0 a2 t140 t145 x13_1 x15_1 x16_1 = some (r1, r2)) ∧ Aside0 (kq ≤ k) ∧ Aside0 (Kd.R (Kd.int .i64) 3 w' w.heap.size (fun _ => True) (.slice Ao14 t140.length co14) t140) ∧ Aside0 (Kd.R (Kd.int .u64) 22 w' w.heap.size (fun k_ => some k_ ≠ (v151 : Value).ownBlock) v147 t145) ∧ Aside0 (Kd.R (Kd.int .u64) 22 w' w.heap.size (fun k_ => some k_ ≠ (v147 : Value).ownBlock) v151 x13_1) ∧ Aside0 (Below w.heap.size w w'))
    case atStart => exact ⟨(t149), (1), (wrap64 ((t140.length : Int) - 1)), eq_, eq_, H', ⟨Nat.le_refl _⟩, ⟨rel_ HO143.out⟩, ⟨rel_ (Kd.R_mono HO148.out (fun _ hk => hk.2))⟩, ⟨rel_ (Kd.R_mono HO152.out (fun _ hk => hk.2))⟩, ⟨bel_⟩⟩
    case round =>
     clear H'
     obtain ⟨x13_1, x15_1, x16_1, rfl, rfl, HA, HK1, HO_9, HO_11, HO_13, HB⟩ := hrel
     cases gk with
     | zero => exact absurd HA.out (by simp [mixed_Run.l0])
     | succ k1 =>
      have H := HA.out
      clear HA
      simp only [mixed_Run.l0] at H
      by_cases c16 : x16_1 ≥ 0
      ·rw [if_pos c16] at H
       have c16b0 := decide_eq_true c16
       clear c16
       by_cases c17 : 0 ≤ x16_1
       ·rw [if_pos c17] at H
        have c17b0 := decide_eq_true c17
        clear c17
        by_cases c18 : x16_1 < (t140.length : Int)
        ·rw [if_pos c18] at H
         have c18b0 := decide_eq_true c18
         clear c18
         replace H := Option.bind_eq_some_iff.mp H
         obtain ⟨t154, A190, H⟩ := H
         (try dsimp only at H)
         have A19 := Aside0.mk A190
         clear A190
         have H' := Aside0.mk H
         clear H
         have p153 : 0 ≤ (x16_1 : Int) := of_decide_eq_true (by assumption)
         have q153 : x16_1 < (t140.length : Int) := of_decide_eq_true (by assumption)
         obtain ⟨ad153, e153, hx153_0⟩ := Kd.at_int (Kd.R_reads' HO_9.out).2.2 x16_1 p153 q153
         cases e153
         replace p153 := eq_true p153
         replace q153 := eq_true q153
         obtain ⟨Ao20, co20, eo20⟩ := Kd.R_slice HO_11.out
         subst eo20
         obtain ⟨Ao21, co21, eo21⟩ := Kd.R_slice HO_13.out
         subst eo21
         go_wp2_with (first | ((with_reducible refine gate_callee (f := 68) rfl ?_); refine goesL_ (some 66) rfl rfl Tryz.func68 (by kernel_rfl) rfl #[.agg #[toPtr (.slice A0 l0.length c0), .slice Ao20 t145.length co20, .int .i64 (rd t140 x16_1), .int .i64 x15_1], .slice Ao21 x13_1.length co21] rfl (gaT_ hT_HR0) ?_; (try rw [← hT_HR0]); (with_reducible refine (mixed_stage_all.calls k1 _ _ l0 _ _ t145 (rd t140 x16_1) x15_1 (fun k_ => some k_ = (.slice Ao21 x13_1.length co21 : Value).ownBlock) (.slice Ao21 x13_1.length co21) x13_1 t154 w _ ?side1 ?side2 ?side3 ?side4 ?side5 ?side6 A19.out).mono ?_); (case side1 => repeat (first | (with_reducible first | exact HB.out | apply below_alloc | apply pw_below_drewN | apply below_drew1) | exact HB.out)); (case side2 => exact Kd.C_kept_came kFld_heap HR0.out bel_ (fun k_ hs_ => (fun e_ => Kd.R_base HO_13.out k_ e_.symm) hs_)); (case side3 => exact HC0.out); (case side4 => exact Kd.C_kept_own (HO_11.out) (fun k_ hk_ hs_ => (hk_) hs_)); (case side5 => exact (Kd.R_reads' HO_11.out).2.1); (case side6 => exact Kd.R_tight rfl HO_13.out); rintro e w22 ⟨rfl, hy0, hb, hkp⟩; refine ⟨_, rfl, ?_⟩; have n0_ := Aside0.mk (Kd.R_mono (ok' := fun k_ => True) (Kd.R_keptB ((Kd.R_apart' HO_9.out (Kd.R_typed HO_13.out) (by decide))) hkp (fun k_ hk_ hs_ => (hk_.2) hs_)) (fun k_ hk_ => trivial)); have n1_ := Aside0.mk (Kd.R_mono (ok' := fun k_ => some k_ ≠ (.slice Ao21 x13_1.length co21 : Value).ownBlock) (Kd.R_keptB (HO_11.out) hkp (fun k_ hk_ hs_ => (hk_) hs_)) (fun k_ hk_ => hk_.1)); have n2_ := Aside0.mk (Kd.R_reok rfl hy0 (fun k_ e_ => HO_13.out.1 k_ e_)); have n3_ := Aside0.mk (hb); clear HO_9; clear HO_11; clear HO_13; clear HB; have HO_9 := n0_; have HO_11 := n1_; have HO_13 := n2_; have HB := n3_; clear n0_ n1_ n2_ n3_; (try clear hb); (try clear hkp); (try clear hy0); have p155 : 0 ≤ (x16_1 : Int) := of_decide_eq_true (by assumption); have q155 : x16_1 < (t140.length : Int) := of_decide_eq_true (by assumption); obtain ⟨ad155, e155, hx155_0⟩ := Kd.at_int (Kd.R_reads' HO_9.out).2.2 x16_1 p155 q155; obtain rfl : ad153 = ad155 := (by injection e155); replace p155 := eq_true p155; replace q155 := eq_true q155))
         go_roundg k1
         case measure => have := HK1.out; omega
         case rel => exact ⟨(t154), (wrap64 (x15_1 * (rd t140 x16_1))), (wrap64 (x16_1 - 1)), eq_, eq_, H', ⟨by have := HK1.out; omega⟩, ⟨rel_ HO_9.out⟩, ⟨rel_ HO_11.out⟩, ⟨rel_ HO_13.out⟩, ⟨bel_⟩⟩
        ·rw [if_neg c18] at H
         exact absurd H (by simp)
       ·rw [if_neg c17] at H
        exact absurd H (by simp)
      ·rw [if_neg c16] at H
       have c16b0 := decide_eq_false c16
       clear c16
       by_cases c23 : a2 = true
       ·subst c23
        have H1 := H; rw [if_pos rfl] at H1
        clear H
        have H := H1
        clear H1
        replace H := Option.bind_eq_some_iff.mp H
        obtain ⟨t156, A240, H⟩ := H
        (try dsimp only at H)
        have A24 := Aside0.mk A240
        clear A240
        simp only [Option.some.injEq, Prod.mk.injEq] at H
        obtain ⟨rfl, rfl⟩ := H
        obtain ⟨Ao25, co25, eo25⟩ := Kd.R_slice HO_13.out
        subst eo25
        go_wp2_with (first | ((with_reducible refine gate_callee (f := 25) rfl ?_); refine goesL_ (some 76) rfl rfl Tryz.func25 (by kernel_rfl) rfl #[toPtr (.slice A0 l0.length c0), .slice Ao25 x13_1.length co25] rfl (gaT_ hT_HR0) ?_; (try rw [← hT_HR0]); (with_reducible refine (dft_Scale.calls k1 _ _ l0 _ _ x13_1 t156 _ ?side1 ?side2 ?side3 ?side4 A24.out).mono ?_); (case side1 => exact cal_ (Kd.C_below HR0.out HB.out)); (case side2 => exact HC0.out); (case side3 => repeat (first | exact (Kd.R_reads' HO_13.out).2.2 | (with_reducible refine Kd.C_alloc ?_ _) | (with_reducible refine Kd.C_drewN ?_ _) | (with_reducible refine Kd.C_drew ?_))); (case side4 => exact (Kd.R_reads' HO_13.out).2.1); rintro e w26 ⟨v157, rfl, ho0, hb⟩; refine ⟨_, rfl, ?_⟩; have n0_ := Aside0.mk (Kd.R_below (rel_ HO_9.out) hb); have n1_ := Aside0.mk (Kd.R_elder' (rel_ HO_11.out) (Kd.R_base ho0) hb); have n2_ := Aside0.mk (Kd.R_elder' (rel_ HO_13.out) (Kd.R_base ho0) hb); have n3_ := Aside0.mk (Kd.R_lower (Kd.R_new' (Kd.R_new' ho0 (Kd.R_lt (rel_ HO_11.out))) (Kd.R_lt (rel_ HO_13.out))) (below_size bel_)); have n4_ := Aside0.mk (below_step bel_ hb); clear HO_9; clear HO_11; clear HO_13; clear HB; have HO_9 := n0_; have HO_11 := n1_; have HO_13 := n2_; have HO158 := n3_; have HB := n4_; clear n0_ n1_ n2_ n3_ n4_; (try clear ho0)))
        go_ret2
        exact ⟨_, eq_, rel_ (Kd.R_mono HO158.out (fun _ hk => trivial)), bel_⟩
       ·replace c23 := Bool.eq_false_iff.mpr c23
        subst c23
        have H1 := H; rw [if_neg (show ¬ (false = true) by decide)] at H1
        clear H
        have H := H1
        clear H1
        simp only [Option.some.injEq, Prod.mk.injEq] at H
        obtain ⟨rfl, rfl⟩ := H
        go_wp2
        go_ret2
        exact ⟨_, eq_, rel_ (Kd.R_mono HO_13.out (fun _ hk => trivial)), bel_⟩
   ·replace c9 := Bool.eq_false_iff.mpr c9
    subst c9
    have H1 := H; rw [if_neg (show ¬ (false = true) by decide)] at H1
    clear H
    have H := H1
    clear H1
    simp only [Option.some.injEq, Prod.mk.injEq] at H
    obtain ⟨rfl, rfl⟩ := H
    go_enter Tryz.func33, Tryz.ntmps33
    go_wp2_with (first | ((with_reducible refine gate_callee (f := 23) rfl ?_); refine goesL_ (some 20) rfl rfl Tryz.func23 (by kernel_rfl) rfl #[toPtr (.slice A0 l0.length c0), .int .i64 (l1.length : Int), .int .i64 1024] rfl (gaT_ hT_HR0) ?_; (try rw [← hT_HR0]); (with_reducible refine (dft_Check.calls _ _ l0 (l1.length : Int) 1024 t139 _ ?side1 ?side2 A4.out).mono ?_); (case side1 => exact cal_ HR0.out); (case side2 => exact HC0.out); rintro e w' ⟨rfl, ⟨nd, rfl⟩⟩; refine ⟨_, rfl, ?_⟩) | (refine gl_ 27 Tryz.func64 #[.int .i64 (l1.length : Int)] rfl ?_; (with_reducible refine (mixed_Radices.calls k (l1.length : Int) t140 true _ A6.out).mono ?_); rintro e w27 ⟨v142, rfl, ho0, hb⟩; refine ⟨_, rfl, ?_⟩; have n0_ := Aside0.mk (Kd.R_lower ho0 (below_size bel_)); have n1_ := Aside0.mk (below_step bel_ hb); clear HB; have HO143 := n0_; have HB := n1_; clear n0_ n1_; (try clear ho0)) | ((with_reducible refine gate_callee (f := 24) rfl ?_); refine goesL_ (some 34) rfl rfl Tryz.func24 (by kernel_rfl) rfl #[toPtr (.slice A0 l0.length c0), .slice A1 l1.length c1] rfl (gaT_ hT_HR0) ?_; (try rw [← hT_HR0]); (with_reducible refine (dft_Good.calls k _ _ l0 _ _ l1 false _ ?side1 ?side2 ?side3 ?side4 A8.out).mono ?_); (case side1 => exact cal_ (Kd.C_below HR0.out HB.out)); (case side2 => exact HC0.out); (case side3 => exact cal_ (Kd.C_below HR1.out HB.out)); (case side4 => exact HC1.out); rintro e w' ⟨rfl, ⟨nd, rfl⟩⟩; refine ⟨_, rfl, ?_⟩))
    go_ret2
    exact ⟨_, eq_, nl_, bel_⟩
  ·replace c7 := Bool.eq_false_iff.mpr c7
   subst c7
   have H1 := H; rw [if_neg (show ¬ (false = true) by decide)] at H1
   clear H
   have H := H1
   clear H1
   simp only [Option.some.injEq, Prod.mk.injEq] at H
   obtain ⟨rfl, rfl⟩ := H
   go_enter Tryz.func33, Tryz.ntmps33
   go_wp2_with (first | ((with_reducible refine gate_callee (f := 23) rfl ?_); refine goesL_ (some 20) rfl rfl Tryz.func23 (by kernel_rfl) rfl #[toPtr (.slice A0 l0.length c0), .int .i64 (l1.length : Int), .int .i64 1024] rfl (gaT_ hT_HR0) ?_; (try rw [← hT_HR0]); (with_reducible refine (dft_Check.calls _ _ l0 (l1.length : Int) 1024 t139 _ ?side1 ?side2 A4.out).mono ?_); (case side1 => exact cal_ HR0.out); (case side2 => exact HC0.out); rintro e w' ⟨rfl, ⟨nd, rfl⟩⟩; refine ⟨_, rfl, ?_⟩) | (refine gl_ 27 Tryz.func64 #[.int .i64 (l1.length : Int)] rfl ?_; (with_reducible refine (mixed_Radices.calls k (l1.length : Int) t140 false _ A6.out).mono ?_); rintro e w28 ⟨v142, rfl, ho0, hb⟩; refine ⟨_, rfl, ?_⟩; have n0_ := Aside0.mk (Kd.R_lower ho0 (below_size bel_)); have n1_ := Aside0.mk (below_step bel_ hb); clear HB; have HO143 := n0_; have HB := n1_; clear n0_ n1_; (try clear ho0)))
   go_ret2
   exact ⟨_, eq_, nl_, bel_⟩
 ·rw [if_neg c5] at H
  have c5b0 := beq_eq_false_iff_ne.mpr c5
  have c5b1 := bne_iff_ne.mpr c5
  simp only [Option.some.injEq, Prod.mk.injEq] at H
  obtain ⟨rfl, rfl⟩ := H
  go_enter Tryz.func33, Tryz.ntmps33
  go_wp2_with (first | ((with_reducible refine gate_callee (f := 23) rfl ?_); refine goesL_ (some 20) rfl rfl Tryz.func23 (by kernel_rfl) rfl #[toPtr (.slice A0 l0.length c0), .int .i64 (l1.length : Int), .int .i64 1024] rfl (gaT_ hT_HR0) ?_; (try rw [← hT_HR0]); (with_reducible refine (dft_Check.calls _ _ l0 (l1.length : Int) 1024 t139 _ ?side1 ?side2 A4.out).mono ?_); (case side1 => exact cal_ HR0.out); (case side2 => exact HC0.out); rintro e w' ⟨rfl, ⟨nd, rfl⟩⟩; refine ⟨_, rfl, ?_⟩))
  go_ret2
  exact ⟨_, eq_, nl_, bel_⟩
noncomputable def epicyclelaw14_same.l0 : Nat → List Int → List Int → Int → Int → Option (Bool)
 | 0, _, _, _, _ => none
 | k + 1, x0, x1, x12, x13 => if x13 < x12 then (if 0 ≤ x13 then (if x13 < (x0.length : Int) then (if x13 < (x1.length : Int) then (if (rd x0 x13) = (rd x1 x13) then (epicyclelaw14_same.l0 k x0 x1 x12 (wrap64 (x13 + 1))) else (some false)) else (none)) else (none)) else (none)) else (some true)
noncomputable def epicyclelaw14_same.f (k : Nat) (l0 : List Int) (l1 : List Int) : Option (Bool) := if (l0.length : Int) = (l1.length : Int) then (epicyclelaw14_same.l0 k l0 l1 (l0.length : Int) 0) else (some false)
set_option maxHeartbeats 8000000 in
set_option maxRecDepth 100000 in
theorem epicyclelaw14_same.calls (k : Nat) (A0 : Option Addr) (c0 : Nat) (l0 : List Int) (A1 : Option Addr) (c1 : Nat) (l1 : List Int) (r : Bool) (w : World) (hr0 : Kd.C (Kd.int .u64) w A0 l0.length l0) (hc0 : l0.length ≤ c0) (hr1 : Kd.C (Kd.int .u64) w A1 l1.length l1) (hc1 : l1.length ≤ c1) (h : epicyclelaw14_same.f k l0 l1 = some r) :
  Calls Tryz.prog 34 #[.slice A0 l0.length c0, .slice A1 l1.length c1] w fun e w' => e = .returned (.bool r) ∧ Drawn0 w w' := by
 have HR0 := Aside0.mk hr0
 have HC0 := Aside0.mk hc0
 clear hr0 hc0
 have HR1 := Aside0.mk hr1
 have HC1 := Aside0.mk hc1
 clear hr1 hc1
 have H := h; unfold epicyclelaw14_same.f at H
 clear h
 by_cases c3 : (l0.length : Int) = (l1.length : Int)
 ·rw [if_pos c3] at H
  have c3b0 := beq_iff_eq.mpr c3
  have c3b1 := bne_eq_false_iff_eq.mpr c3
  have c3b2 : (l0.length == l1.length) = true := by first | simpa using c3 | (simp at c3 ⊢; omega)
  clear c3
  have H' := Aside0.mk H
  clear H
  go_enter Tryz.func34, Tryz.ntmps34
  go_wp2
  go_loopg [13] k (fun kq v13 w' => ∃ (x13_1 : Int), v13 = .int .i64 x13_1 ∧ Aside0 (epicyclelaw14_same.l0 kq l0 l1 (l0.length : Int) x13_1 = some r) ∧ Aside0 (kq ≤ k) ∧ Drawn0 w w')
  case atStart => exact ⟨(0), eq_, H', ⟨Nat.le_refl _⟩, dw_⟩
  case round =>
   clear H'
   obtain ⟨x13_1, rfl, HA, HK1, ⟨m1, rfl⟩⟩ := hrel
   cases gk with
   | zero => exact absurd HA.out (by simp [epicyclelaw14_same.l0])
   | succ k1 =>
    have H := HA.out
    clear HA
    simp only [epicyclelaw14_same.l0] at H
    by_cases c4 : x13_1 < (l0.length : Int)
    ·rw [if_pos c4] at H
     have c4b0 := decide_eq_true c4
     clear c4
     by_cases c5 : 0 ≤ x13_1
     ·rw [if_pos c5] at H
      have c5b0 := decide_eq_true c5
      clear c5
      by_cases c6 : x13_1 < (l0.length : Int)
      ·rw [if_pos c6] at H
       have c6b0 := decide_eq_true c6
       clear c6
       by_cases c7 : x13_1 < (l1.length : Int)
       ·rw [if_pos c7] at H
        have c7b0 := decide_eq_true c7
        clear c7
        by_cases c8 : (rd l0 x13_1) = (rd l1 x13_1)
        ·rw [if_pos c8] at H
         have c8b0 := beq_iff_eq.mpr c8
         have c8b1 := bne_eq_false_iff_eq.mpr c8
         clear c8
         have H' := Aside0.mk H
         clear H
         have p159 : 0 ≤ (x13_1 : Int) := of_decide_eq_true (by assumption)
         have q159 : x13_1 < (l0.length : Int) := of_decide_eq_true (by assumption)
         obtain ⟨ad159, e159, hx159_0⟩ := Kd.at_int HR0.out x13_1 p159 q159
         cases e159
         replace p159 := eq_true p159
         replace q159 := eq_true q159
         have p160 : 0 ≤ (x13_1 : Int) := of_decide_eq_true (by assumption)
         have q160 : x13_1 < (l1.length : Int) := of_decide_eq_true (by assumption)
         obtain ⟨ad160, e160, hx160_0⟩ := Kd.at_int HR1.out x13_1 p160 q160
         cases e160
         replace p160 := eq_true p160
         replace q160 := eq_true q160
         go_wp2
         repeat (go_quiet (fail); try go_wp2)
         go_roundg k1
         case measure => have := HK1.out; omega
         case rel => exact ⟨(wrap64 (x13_1 + 1)), eq_, H', ⟨by have := HK1.out; omega⟩, dw_⟩
        ·rw [if_neg c8] at H
         have c8b0 := beq_eq_false_iff_ne.mpr c8
         have c8b1 := bne_iff_ne.mpr c8
         obtain rfl := Option.some.inj H
         have p159 : 0 ≤ (x13_1 : Int) := of_decide_eq_true (by assumption)
         have q159 : x13_1 < (l0.length : Int) := of_decide_eq_true (by assumption)
         obtain ⟨ad159, e159, hx159_0⟩ := Kd.at_int HR0.out x13_1 p159 q159
         cases e159
         replace p159 := eq_true p159
         replace q159 := eq_true q159
         have p160 : 0 ≤ (x13_1 : Int) := of_decide_eq_true (by assumption)
         have q160 : x13_1 < (l1.length : Int) := of_decide_eq_true (by assumption)
         obtain ⟨ad160, e160, hx160_0⟩ := Kd.at_int HR1.out x13_1 p160 q160
         cases e160
         replace p160 := eq_true p160
         replace q160 := eq_true q160
         go_wp2
         repeat (go_quiet (fail); try go_wp2)
         go_ret
         exact ⟨eq_, dw_⟩
       ·rw [if_neg c7] at H
        exact absurd H (by simp)
      ·rw [if_neg c6] at H
       exact absurd H (by simp)
     ·rw [if_neg c5] at H
      exact absurd H (by simp)
    ·rw [if_neg c4] at H
     have c4b0 := decide_eq_false c4
     clear c4
     obtain rfl := Option.some.inj H
     go_wp2
     go_ret
     exact ⟨eq_, dw_⟩
 ·rw [if_neg c3] at H
  have c3b0 := beq_eq_false_iff_ne.mpr c3
  have c3b1 := bne_iff_ne.mpr c3
  have c3b2 : (l0.length == l1.length) = false := by first | simpa using c3 | (simp at c3 ⊢; omega)
  obtain rfl := Option.some.inj H
  go_enter Tryz.func34, Tryz.ntmps34
  go_wp2
  go_ret
  exact ⟨eq_, dw_⟩
noncomputable def epicyclelaw14_alive.f (k : Nat)  : Option (Bool) := (field_Small.f k 7).bind fun bt161 => ((mixed_Run.f k bt161.1 (([1, 2, 4] : List Int)) false).bind fun bt168 => ((mixed_Radices.f k 60).bind fun bt172 => (if bt168.2 = 0 then ((epicyclelaw14_same.f k bt168.1 (([0, 0, 3] : List Int))).bind fun t179 => (if t179 = true then (if bt172.2 = true then (if (bt172.1.length : Int) = 4 then (if 3 < (bt172.1.length : Int) then (some ((rd bt172.1 3) == 5)) else (none)) else (none)) else (none)) else (none))) else (none))))
set_option maxHeartbeats 8000000 in
set_option maxRecDepth 100000 in
theorem epicyclelaw14_alive.calls (k : Nat)  (r : Bool) (w : World) (h : epicyclelaw14_alive.f k  = some r) :
  Calls Tryz.prog 31 #[] w fun e w' => e = .returned (.bool r) ∧ Below w.heap.size w w' := by
 have HB := Aside0.mk (Below.refl w.heap.size w)
 have H := h; unfold epicyclelaw14_alive.f at H
 clear h
 replace H := Option.bind_eq_some_iff.mp H
 obtain ⟨⟨t161, t162⟩, A10, H⟩ := H
 (try dsimp only at H)
 have A1 := Aside0.mk A10
 clear A10
 obtain ⟨y165, hy165⟩ : ∃ y_ : List Int, y_ = (([1, 2, 4] : List Int)) := ⟨_, rfl⟩
 replace H : ((mixed_Run.f k t161 y165 false).bind fun bt168 => ((mixed_Radices.f k 60).bind fun bt172 => (if bt168.2 = 0 then ((epicyclelaw14_same.f k bt168.1 (([0, 0, 3] : List Int))).bind fun t179 => (if t179 = true then (if bt172.2 = true then (if (bt172.1.length : Int) = 4 then (if 3 < (bt172.1.length : Int) then (some ((rd bt172.1 3) == 5)) else (none)) else (none)) else (none)) else (none))) else (none)))) = some r := by first | (rw [hy165]; with_reducible exact H) | (have H2_ := (Option.bind_some _ _).symm.trans H; rw [hy165]; with_reducible exact H2_) | (have H2_ := (Option.bind_some _ _).symm.trans H; with_reducible exact H2_) | with_reducible exact H | (rw [hy165]; exact H) | exact H
 have Ny165 := Aside0.mk hy165
 clear hy165
 replace H := Option.bind_eq_some_iff.mp H
 obtain ⟨⟨t168, t169⟩, A20, H⟩ := H
 (try dsimp only at H)
 have A2 := Aside0.mk A20
 clear A20
 replace H := Option.bind_eq_some_iff.mp H
 obtain ⟨⟨t172, t173⟩, A30, H⟩ := H
 (try dsimp only at H)
 have A3 := Aside0.mk A30
 clear A30
 by_cases c4 : t169 = 0
 ·rw [if_pos c4] at H
  have c4b0 := beq_iff_eq.mpr c4
  have c4b1 := bne_eq_false_iff_eq.mpr c4
  clear c4
  obtain ⟨y176, hy176⟩ : ∃ y_ : List Int, y_ = (([0, 0, 3] : List Int)) := ⟨_, rfl⟩
  replace H : ((epicyclelaw14_same.f k t168 y176).bind fun t179 => (if t179 = true then (if t173 = true then (if (t172.length : Int) = 4 then (if 3 < (t172.length : Int) then (some ((rd t172 3) == 5)) else (none)) else (none)) else (none)) else (none))) = some r := by first | (rw [hy176]; with_reducible exact H) | (have H2_ := (Option.bind_some _ _).symm.trans H; rw [hy176]; with_reducible exact H2_) | (have H2_ := (Option.bind_some _ _).symm.trans H; with_reducible exact H2_) | with_reducible exact H | (rw [hy176]; exact H) | exact H
  have Ny176 := Aside0.mk hy176
  clear hy176
  replace H := Option.bind_eq_some_iff.mp H
  obtain ⟨t179, A50, H⟩ := H
  (try dsimp only at H)
  have A5 := Aside0.mk A50
  clear A50
  by_cases c6 : t179 = true
  ·subst c6
   have H1 := H; rw [if_pos rfl] at H1
   clear H
   have H := H1
   clear H1
   by_cases c7 : t173 = true
   ·subst c7
    have H1 := H; rw [if_pos rfl] at H1
    clear H
    have H := H1
    clear H1
    by_cases c8 : (t172.length : Int) = 4
    ·rw [if_pos c8] at H
     have c8b0 := beq_iff_eq.mpr c8
     have c8b1 := bne_eq_false_iff_eq.mpr c8
     clear c8
     by_cases c9 : 3 < (t172.length : Int)
     ·rw [if_pos c9] at H
      have c9b0 := decide_eq_true c9
      have c9b1 : decide (3 < t172.length) = true := decide_eq_true (by omega)
      clear c9
      obtain rfl := Option.some.inj H
      go_enter Tryz.func31, Tryz.ntmps31
      go_wp2_with (first | (refine gl_ 8 Tryz.func48 #[.int .u64 7] rfl ?_; (with_reducible refine (field_Small.calls k 7 t161 t162 _ A1.out).mono ?_); rintro e w10 ⟨v163, rfl, ho0, hb⟩; refine ⟨_, rfl, ?_⟩; have n0_ := Aside0.mk (Kd.R_lower ho0 (below_size bel_)); have n1_ := Aside0.mk (below_step bel_ hb); clear HB; have HO164 := n0_; have HB := n1_; clear n0_ n1_; (try clear ho0)) | ((with_reducible refine gate_dst (N := 13) rfl ?_); (try (refine gate_guard (by rfl) ?_; dsimp only)); refine Kd.R_lit (Kd.int .u64) _ 22 ?hg (N := 13) ?hd (xs := ([1, 2, 4] : List Int)) (inner := [.int .u64 1, .int .u64 2, .int .u64 4]) (ok := fun _ => True) (okp := fun _ => True) ?hr ?hp (fun _ hk => hk) trivial (Below.refl _ _) (Nat.le_refl _) (by simp) ?_; (case hd => rfl); (case hg => rfl); (case hr => first | (go_simp; done) | (go_simp; rfl)); (case hp => exact (Reps.one (show Kd.M (Kd.int .u64) _ _ _ 1 [.int .u64 1] from rfl) (Reps.one (show Kd.M (Kd.int .u64) _ _ _ 2 [.int .u64 2] from rfl) (Reps.one (show Kd.M (Kd.int .u64) _ _ _ 4 [.int .u64 4] from rfl) (Reps.none _ _))))); intro v166 w11 ho12 hb hg_ hnew_; clear hg_ hnew_; (first | rw [← Ny165.out] at ho12 | (simp only [Int.reduceToNat] at ho12; rw [← Ny165.out] at ho12)); have n0_ := Aside0.mk (Kd.R_below (rel_ HO164.out) hb); have n1_ := Aside0.mk (Kd.R_lower ho12 (below_size bel_)); have n2_ := Aside0.mk (below_step bel_ hb); clear HO164; clear HB; have HO164 := n0_; have HO167 := n1_; have HB := n2_; clear n0_ n1_ n2_; clear hb ho12; obtain ⟨Ao13, co13, eo13⟩ := Kd.R_slice HO164.out; subst eo13; obtain ⟨Ao14, co14, eo14⟩ := Kd.R_slice HO167.out; subst eo14) | ((with_reducible refine gate_callee (f := 33) rfl ?_); refine goesL_ (some 14) rfl rfl Tryz.func33 (by kernel_rfl) rfl #[toPtr (.slice Ao13 t161.length co13), .slice Ao14 y165.length co14, .bool false] rfl (by (try simp only [List.map_toArray, List.map_cons, List.map_nil]); first | done | (rw [hT_HO164] <;> rfl) | rfl | (simp only [List.length_drop, List.length_take]; rfl)) ?_; (try rw [← hT_HO164]); (with_reducible refine (mixed_Run.calls k _ _ t161 _ _ y165 false t168 t169 _ ?side1 ?side2 ?side3 ?side4 A2.out).mono ?_); (case side1 => repeat (first | exact (Kd.R_reads' HO164.out).2.2 | (with_reducible refine Kd.C_alloc ?_ _) | (with_reducible refine Kd.C_drewN ?_ _) | (with_reducible refine Kd.C_drew ?_))); (case side2 => exact (Kd.R_reads' HO164.out).2.1); (case side3 => repeat (first | exact (Kd.R_reads' HO167.out).2.2 | (with_reducible refine Kd.C_alloc ?_ _) | (with_reducible refine Kd.C_drewN ?_ _) | (with_reducible refine Kd.C_drew ?_))); (case side4 => exact (Kd.R_reads' HO167.out).2.1); rintro e w15 ⟨v170, rfl, ho0, hb⟩; refine ⟨_, rfl, ?_⟩; have n0_ := Aside0.mk (Kd.R_below (rel_ HO164.out) hb); have n1_ := Aside0.mk (Kd.R_elder' (rel_ HO167.out) (Kd.R_base ho0) hb); have n2_ := Aside0.mk (Kd.R_lower (Kd.R_new' ho0 (Kd.R_lt (rel_ HO167.out))) (below_size bel_)); have n3_ := Aside0.mk (below_step bel_ hb); clear HO164; clear HO167; clear HB; have HO164 := n0_; have HO167 := n1_; have HO171 := n2_; have HB := n3_; clear n0_ n1_ n2_ n3_; (try clear ho0)) | (refine gl_ 18 Tryz.func64 #[.int .i64 60] rfl ?_; (with_reducible refine (mixed_Radices.calls k 60 t172 true _ A3.out).mono ?_); rintro e w16 ⟨v174, rfl, ho0, hb⟩; refine ⟨_, rfl, ?_⟩; have n0_ := Aside0.mk (Kd.R_below (rel_ HO164.out) hb); have n1_ := Aside0.mk (Kd.R_below (rel_ HO167.out) hb); have n2_ := Aside0.mk (Kd.R_below (rel_ HO171.out) hb); have n3_ := Aside0.mk (Kd.R_lower ho0 (below_size bel_)); have n4_ := Aside0.mk (below_step bel_ hb); clear HO164; clear HO167; clear HO171; clear HB; have HO164 := n0_; have HO167 := n1_; have HO171 := n2_; have HO175 := n3_; have HB := n4_; clear n0_ n1_ n2_ n3_ n4_; (try clear ho0)) | ((with_reducible refine gate_dst (N := 25) rfl ?_); (try (refine gate_guard (by rfl) ?_; dsimp only)); refine Kd.R_lit (Kd.int .u64) _ 22 ?hg (N := 25) ?hd (xs := ([0, 0, 3] : List Int)) (inner := [.int .u64 0, .int .u64 0, .int .u64 3]) (ok := fun _ => True) (okp := fun _ => True) ?hr ?hp (fun _ hk => hk) trivial (Below.refl _ _) (Nat.le_refl _) (by simp) ?_; (case hd => rfl); (case hg => rfl); (case hr => first | (go_simp; done) | (go_simp; rfl)); (case hp => exact (Reps.one (show Kd.M (Kd.int .u64) _ _ _ 0 [.int .u64 0] from rfl) (Reps.one (show Kd.M (Kd.int .u64) _ _ _ 0 [.int .u64 0] from rfl) (Reps.one (show Kd.M (Kd.int .u64) _ _ _ 3 [.int .u64 3] from rfl) (Reps.none _ _))))); intro v177 w17 ho18 hb hg_ hnew_; clear hg_ hnew_; (first | rw [← Ny176.out] at ho18 | (simp only [Int.reduceToNat] at ho18; rw [← Ny176.out] at ho18)); have n0_ := Aside0.mk (Kd.R_below (rel_ HO164.out) hb); have n1_ := Aside0.mk (Kd.R_elder' (rel_ HO167.out) (Kd.R_base ho18) hb); have n2_ := Aside0.mk (Kd.R_elder' (rel_ HO171.out) (Kd.R_base ho18) hb); have n3_ := Aside0.mk (Kd.R_below (rel_ HO175.out) hb); have n4_ := Aside0.mk (Kd.R_lower (Kd.R_new' (Kd.R_new' ho18 (Kd.R_lt (rel_ HO167.out))) (Kd.R_lt (rel_ HO171.out))) (below_size bel_)); have n5_ := Aside0.mk (below_step bel_ hb); clear HO164; clear HO167; clear HO171; clear HO175; clear HB; have HO164 := n0_; have HO167 := n1_; have HO171 := n2_; have HO175 := n3_; have HO178 := n4_; have HB := n5_; clear n0_ n1_ n2_ n3_ n4_ n5_; clear hb ho18; obtain ⟨Ao19, co19, eo19⟩ := Kd.R_slice HO171.out; subst eo19; obtain ⟨Ao20, co20, eo20⟩ := Kd.R_slice HO178.out; subst eo20) | (go_at_call 34; (with_reducible refine (epicyclelaw14_same.calls k _ _ t168 _ _ y176 true _ ?side1 ?side2 ?side3 ?side4 A5.out).mono ?_); (case side1 => repeat (first | exact (Kd.R_reads' HO171.out).2.2 | (with_reducible refine Kd.C_alloc ?_ _) | (with_reducible refine Kd.C_drewN ?_ _) | (with_reducible refine Kd.C_drew ?_))); (case side2 => exact (Kd.R_reads' HO171.out).2.1); (case side3 => repeat (first | exact (Kd.R_reads' HO178.out).2.2 | (with_reducible refine Kd.C_alloc ?_ _) | (with_reducible refine Kd.C_drewN ?_ _) | (with_reducible refine Kd.C_drew ?_))); (case side4 => exact (Kd.R_reads' HO178.out).2.1); rintro e w' ⟨rfl, ⟨nd, rfl⟩⟩; obtain ⟨Ao21, co21, eo21⟩ := Kd.R_slice HO175.out; subst eo21; have p180 : 0 ≤ (3 : Int) := (by omega); have q180 : 3 < (t172.length : Int) := of_decide_eq_true (by assumption); obtain ⟨ad180, e180, hx180_0⟩ := Kd.at_int (Kd.R_reads' HO175.out).2.2 3 p180 q180; cases e180; (try simp only [show (3 : Int).toNat = 3 from rfl, Nat.reduceMul, Nat.reduceEqDiff, Go.Addr.add, ↓reduceIte] at hx180_0); have qi180 : (3 < t172.length) = True := eq_true (by omega); (try rw [show ((3 : Int)).toNat = 3 from rfl] at hx180_0); replace p180 := eq_true p180; replace q180 := eq_true q180))
      go_ret
      exact ⟨eq_, bel_⟩
     ·rw [if_neg c9] at H
      exact absurd H (by simp)
    ·rw [if_neg c8] at H
     exact absurd H (by simp)
   ·replace c7 := Bool.eq_false_iff.mpr c7
    subst c7
    have H1 := H; rw [if_neg (show ¬ (false = true) by decide)] at H1
    clear H
    have H := H1
    clear H1
    exact absurd H (by simp)
  ·replace c6 := Bool.eq_false_iff.mpr c6
   subst c6
   have H1 := H; rw [if_neg (show ¬ (false = true) by decide)] at H1
   clear H
   have H := H1
   clear H1
   exact absurd H (by simp)
 ·rw [if_neg c4] at H
  exact absurd H (by simp)
mutual
noncomputable def epicyclelaw14_rows.l0 : Nat → List (S94) → List (S134) → Int → Int → Option ((List (S94)))
 | 0, _, _, _, _ => none
 | k + 1, x3, x9, x10, x11 => if x11 < x10 then (if 0 ≤ x11 then (if x11 < (x9.length : Int) then (epicyclelaw14_rows.l1 k x3 ([] : List (S147)) x9 x10 x11 ((rd_T134 x9 x11).f2) (((rd_T134 x9 x11).f2).length : Int) 0 ((rd_T134 x9 x11).f0) ((rd_T134 x9 x11).f1) ((rd_T134 x9 x11).f2)) else (none)) else (none)) else (some x3)
noncomputable def epicyclelaw14_rows.l1 : Nat → List (S94) → List (S147) → List (S134) → Int → Int → List (S146) → Int → Int → Int → Int → List (S146) → Option ((List (S94)))
 | 0, _, _, _, _, _, _, _, _, _, _, _ => none
 | k + 1, x3, x6, x9, x10, x11, x16, x17, x18, x183000, x183001, x183002 => if x18 < x17 then (if 0 ≤ x18 then (if x18 < (x16.length : Int) then (if x6.length < 8796093022208 then (epicyclelaw14_rows.l1 k x3 (x6 ++ [(⟨(rd_T146 x16 x18).f0, (rd_T146 x16 x18).f1⟩ : S147)]) x9 x10 x11 x16 x17 (wrap64 (x18 + 1)) x183000 x183001 x183002) else (none)) else (none)) else (none)) else (if x3.length < 3518437208883 then (epicyclelaw14_rows.l0 k (x3 ++ [(⟨x183000, x183001, x6⟩ : S94)]) x9 x10 (wrap64 (x11 + 1))) else (none))
end
noncomputable def epicyclelaw14_rows.f (k : Nat) (l0 : List (S134)) : Option ((List (S94))) := epicyclelaw14_rows.l0 k ([] : List (S94)) l0 (l0.length : Int) 0
set_option maxHeartbeats 8000000 in
set_option maxRecDepth 100000 in
theorem epicyclelaw14_rows.calls (k : Nat) (A0 : Option Addr) (c0 : Nat) (l0 : List (S134)) (r : List (S94)) (w : World) (hr0 : Kd.C k134 w A0 l0.length l0) (hc0 : l0.length ≤ c0) (h : epicyclelaw14_rows.f k l0 = some r) :
  Calls Tryz.prog 65 #[.slice A0 l0.length c0] w fun e w' => ∃ v0_ : Value, e = .returned (v0_) ∧ Kd.S k94 94 w' w.heap.size (fun _ => True) v0_ r ∧ Below w.heap.size w w' := by
 have hu134 := Tryz.underlying134
 have hu146 := Tryz.underlying146
 have hu94 := Tryz.underlying94
 have HR0 := Aside0.mk hr0
 have HC0 := Aside0.mk hc0
 clear hr0 hc0
 have HB := Aside0.mk (Below.refl w.heap.size w)
 have H := h; unfold epicyclelaw14_rows.f at H
 clear h
 have H' := Aside0.mk H
 clear H
 go_enter Tryz.func65, Tryz.ntmps65
 go_wp2
 go_loopg [3, 11] k (fun kq v3 v11 w' => ∃ (x3_1 : List (S94)) (x11_1 : Int), v11 = .int .i64 x11_1 ∧ Aside0 (epicyclelaw14_rows.l0 kq x3_1 l0 (l0.length : Int) x11_1 = some r) ∧ Aside0 (kq ≤ k) ∧ Aside0 (Kd.S k94 94 w' w.heap.size (fun _ => True) v3 x3_1) ∧ Aside0 (Below w.heap.size w w'))
 case atStart => exact ⟨(([] : List (S94))), (0), eq_, H', ⟨Nat.le_refl _⟩, ⟨by first | exact Kd.S_nil _ _ _ _ _ | exact Kd.N_nil _ _ _ _ _ | exact Kd.V_nil _ _ _ _ _ | exact Kd.Q_nil _ _ _ _ _ | exact Kd.R_nil _ _ _ _ _⟩, ⟨bel_⟩⟩
 case round =>
  clear H'
  obtain ⟨x3_1, x11_1, rfl, HA, HK1, HO_3, HB⟩ := hrel
  cases gk with
  | zero => exact absurd HA.out (by simp [epicyclelaw14_rows.l0])
  | succ k1 =>
   have H := HA.out
   clear HA
   simp only [epicyclelaw14_rows.l0] at H
   by_cases c2 : x11_1 < (l0.length : Int)
   ·rw [if_pos c2] at H
    have c2b0 := decide_eq_true c2
    clear c2
    by_cases c3 : 0 ≤ x11_1
    ·rw [if_pos c3] at H
     have c3b0 := decide_eq_true c3
     clear c3
     by_cases c4 : x11_1 < (l0.length : Int)
     ·rw [if_pos c4] at H
      have c4b0 := decide_eq_true c4
      clear c4
      have H' := Aside0.mk H
      clear H
      have p181 : 0 ≤ (x11_1 : Int) := of_decide_eq_true (by assumption)
      have q181 : x11_1 < (l0.length : Int) := of_decide_eq_true (by assumption)
      obtain ⟨ad181, A181_2, c181_2, e181, hx181_0, hx181_1, hx181_2, hl181_2, hi181_2⟩ := at_T134 HR0.out x11_1 p181 q181
      cases e181
      replace hx181_0 := hb_ HB.out hx181_0
      replace hx181_1 := hb_ HB.out hx181_1
      replace hx181_2 := hb_ HB.out hx181_2
      have HR181_2 := Aside0.mk hi181_2
      have HC181_2 := Aside0.mk hl181_2
      clear hi181_2 hl181_2
      replace p181 := eq_true p181
      replace q181 := eq_true q181
      go_wp2_with (first | ((with_reducible refine gate_dst (N := 5) rfl ?_); refine be_ 5 #[.int .u64 0, .int .u64 0, .slice none 0 0] 134 ?_; intro gb182 hg w5 hbox hb; have n0_ := Aside0.mk (Kd.S_below (by (with_reducible repeat (first | apply Kd.S_alloc | apply Kd.S_drewN | apply Kd.S_drew)); exact HO_3.out) hb); have n1_ := Aside0.mk (below_step bel_ hb); have n2_ := Aside0.mk (hbox); have n3_ := Aside0.mk ((by rw [hg]; exact (below_size bel_) : w.heap.size ≤ gb182)); have n4_ := Aside0.mk ((by rw [hg]; exact (below_size bel_) : w.heap.size ≤ gb182)); clear HO_3; clear HB; have HO_3 := n0_; have HB := n1_; have BK182 := n2_; have GW182 := n3_; have GE182 := n4_; clear n0_ n1_ n2_ n3_ n4_; clear hb hbox hg; have hcz6_0 := bc_ BK182.out 0 rfl; have hcz6_1 := bc_ BK182.out 1 rfl; have hcz6_2 := bc_ BK182.out 2 rfl; have hfz6_0 := blk_frozen BK182.out 0; have hfz6_1 := blk_frozen BK182.out 1; have hfz6_2 := blk_frozen BK182.out 2))
      go_loopg [6, 18] k1 (fun kq v6 v18 w' => ∃ (x6_2 : List (S147)) (x18_2 : Int), v18 = .int .i64 x18_2 ∧ Aside0 (epicyclelaw14_rows.l1 kq x3_1 x6_2 l0 (l0.length : Int) x11_1 ((rd_T134 l0 x11_1).f2) (((rd_T134 l0 x11_1).f2).length : Int) x18_2 ((rd_T134 l0 x11_1).f0) ((rd_T134 l0 x11_1).f1) ((rd_T134 l0 x11_1).f2) = some r) ∧ Aside0 (kq ≤ k1) ∧ Aside0 (Kd.S k94 94 w' w.heap.size (fun k_ => some k_ ≠ (v6 : Value).ownBlock) u3 x3_1) ∧ Aside0 (Kd.R k147 147 w' w.heap.size (fun _ => True) v6 x6_2) ∧ Aside0 (w'.heap[gb182]? = some (.cells #[.int .u64 ((rd_T134 l0 x11_1).f0), .int .u64 ((rd_T134 l0 x11_1).f1), (.slice A181_2 ((rd_T134 l0 x11_1).f2).length c181_2)] 134 (0, 0))) ∧ Aside0 (Below w.heap.size w w'))
      case atStart => exact ⟨(([] : List (S147))), (0), eq_, H', ⟨Nat.le_refl _⟩, ⟨by (with_reducible repeat (first | apply Kd.S_alloc | apply Kd.S_drewN | apply Kd.S_drew)); exact Kd.S_mono (Kd.S_far (p := ⟨gb182, 2, none⟩) (Kd.S_far (p := ⟨gb182, 1, none⟩) (Kd.S_far (p := ⟨gb182, 0, none⟩) (Kd.S_types HO_3.out BK182.out (by decide)) (fun _ hk => hk.2) (.int .u64 ((rd_T134 l0 x11_1).f0))) (fun _ hk => hk.2) (.int .u64 ((rd_T134 l0 x11_1).f1))) (fun _ hk => hk.2) (.slice A181_2 ((rd_T134 l0 x11_1).f2).length c181_2)) (fun _ hk => (by simp [Value.ownBlock]))⟩, ⟨nl_⟩, ⟨blk_put (blk_put (blk_put BK182.out 0 _ rfl) 1 _ rfl) 2 _ rfl⟩, ⟨bel_⟩⟩
      case round =>
       clear H'
       try clear hx1
       try clear hx181_0
       try clear hx181_1
       try clear hx181_2
       obtain ⟨x6_2, x18_2, rfl, HA, HK2, HO_3, HO_6, BK182, HB⟩ := hrel
       cases gk with
       | zero => exact absurd HA.out (by simp [epicyclelaw14_rows.l1])
       | succ k2 =>
        have H := HA.out
        clear HA
        simp only [epicyclelaw14_rows.l1] at H
        by_cases c7 : x18_2 < (((rd_T134 l0 x11_1).f2).length : Int)
        ·rw [if_pos c7] at H
         have c7b0 := decide_eq_true c7
         clear c7
         by_cases c8 : 0 ≤ x18_2
         ·rw [if_pos c8] at H
          have c8b0 := decide_eq_true c8
          clear c8
          by_cases c9 : x18_2 < (((rd_T134 l0 x11_1).f2).length : Int)
          ·rw [if_pos c9] at H
           have c9b0 := decide_eq_true c9
           clear c9
           by_cases c10 : x6_2.length < 8796093022208
           ·rw [if_pos c10] at H
            have LMc10 := Aside0.mk c10
            clear c10
            obtain ⟨y185, hy185⟩ : ∃ y_ : List (S147), y_ = (x6_2 ++ [(⟨(rd_T146 ((rd_T134 l0 x11_1).f2) x18_2).f0, (rd_T146 ((rd_T134 l0 x11_1).f2) x18_2).f1⟩ : S147)]) := ⟨_, rfl⟩
            replace H : (epicyclelaw14_rows.l1 k2 x3_1 y185 l0 (l0.length : Int) x11_1 ((rd_T134 l0 x11_1).f2) (((rd_T134 l0 x11_1).f2).length : Int) (wrap64 (x18_2 + 1)) ((rd_T134 l0 x11_1).f0) ((rd_T134 l0 x11_1).f1) ((rd_T134 l0 x11_1).f2)) = some r := by first | (rw [hy185]; with_reducible exact H) | (have H2_ := (Option.bind_some _ _).symm.trans H; rw [hy185]; with_reducible exact H2_) | (have H2_ := (Option.bind_some _ _).symm.trans H; with_reducible exact H2_) | with_reducible exact H | (rw [hy185]; exact H) | exact H
            have Ny185 := Aside0.mk hy185
            clear hy185
            have H' := Aside0.mk H
            clear H
            have p183 : 0 ≤ (x18_2 : Int) := of_decide_eq_true (by assumption)
            have q183 : x18_2 < (((rd_T134 l0 x11_1).f2).length : Int) := of_decide_eq_true (by assumption)
            obtain ⟨ad183, e183, hx183_0, hx183_1⟩ := at_T146 HR181_2.out x18_2 p183 q183
            cases e183
            replace hx183_0 := hb_ HB.out hx183_0
            replace hx183_1 := hb_ HB.out hx183_1
            replace p183 := eq_true p183
            replace q183 := eq_true q183
            go_wp2_with (first | ((with_reducible refine gate_dst (N := 8) rfl ?_); refine be_ 8 #[.int .u64 0, .int .i64 0] 146 ?_; intro gb184 hg w11 hbox hb; have n0_ := Aside0.mk (Kd.S_below (by (with_reducible repeat (first | apply Kd.S_alloc | apply Kd.S_drewN | apply Kd.S_drew)); exact HO_3.out) hb); have n1_ := Aside0.mk (Kd.R_below (rel_ HO_6.out) hb); have n2_ := Aside0.mk (blk_below BK182.out hb); have n3_ := Aside0.mk (below_step bel_ hb); have n4_ := Aside0.mk (hbox); have n5_ := Aside0.mk ((by rw [hg]; exact (below_size bel_) : w.heap.size ≤ gb184)); have n6_ := Aside0.mk ((by rw [hg]; exact (below_size bel_) : w.heap.size ≤ gb184)); have n7_ := Aside0.mk ((by rw [hg]; exact Nat.ne_of_lt (blk_lt BK182.out) : gb182 ≠ gb184)); have n8_ := Aside0.mk ((by rw [hg]; exact Nat.ne_of_gt (blk_lt BK182.out) : gb184 ≠ gb182)); clear HO_3; clear HO_6; clear BK182; clear HB; have HO_3 := n0_; have HO_6 := n1_; have BK182 := n2_; have HB := n3_; have BK184 := n4_; have GW184 := n5_; have GE184 := n6_; have NB182_184 := n7_; have NB184_182 := n8_; clear n0_ n1_ n2_ n3_ n4_ n5_ n6_ n7_ n8_; clear hb hbox hg; have hnb12 := NB184_182.out; have hnc12 := NB182_184.out; have hcz13_0 := bc_ BK184.out 0 rfl; have hcz13_1 := bc_ BK184.out 1 rfl; have hfz13_0 := blk_frozen BK184.out 0; have hfz13_1 := blk_frozen BK184.out 1) | ((with_reducible refine gate_builtin (b := .append) (xs := #[.tmp 22, .tmp 24]) rfl ?_); at_builtin; refine Kd.R_append k147 (w0 := w) w.heap.size rfl (.tmp 22) (.tmp 24) 92 147 (.agg #[(.int .u64 0), (.int .i64 0)]) 16 rfl Tryz.underlying92 info147 rfl (by decide) (by omega) u6 x6_2 (⟨(rd_T146 ((rd_T134 l0 x11_1).f2) x18_2).f0, (rd_T146 ((rd_T134 l0 x11_1).f2) x18_2).f1⟩ : S147) [.int .u64 ((rd_T146 ((rd_T134 l0 x11_1).f2) x18_2).f0), .int .i64 ((rd_T146 ((rd_T134 l0 x11_1).f2) x18_2).f1)] (fun _ => True) (fun _ => False) rfl (by first | (go_simp; done) | (go_simp; rfl)) ?aP (fun _ hk => hk.elim) ?aF ?aO ?aB ?aS ?aL ?_; (case aP => exact k147_mkM _ _ _ (⟨(rd_T146 ((rd_T134 l0 x11_1).f2) x18_2).f0, (rd_T146 ((rd_T134 l0 x11_1).f2) x18_2).f1⟩ : S147)); (case aB => exact bel_); (case aF => exact (fun _ _ => trivial)); (case aO => exact (by (with_reducible repeat (first | apply Kd.R_alloc | apply Kd.R_drewN | apply Kd.R_drew)); exact Kd.R_mono (Kd.R_far (p := ⟨gb184, 1, none⟩) (Kd.R_far (p := ⟨gb184, 0, none⟩) (Kd.R_types HO_6.out BK184.out (by decide)) (fun _ hk => hk.2) (.int .u64 ((rd_T146 ((rd_T134 l0 x11_1).f2) x18_2).f0))) (fun _ hk => hk.2) (.int .i64 ((rd_T146 ((rd_T134 l0 x11_1).f2) x18_2).f1))) (fun _ hk => trivial))); (case aS => exact (below_size bel_)); (case aL => have := LMc10.out; omega); intro v186 w14 ho hb hg hat; rw [← Ny185.out] at ho; have n0_ := Aside0.mk (Kd.S_after (ok := (fun _ => True)) (by (with_reducible repeat (first | apply Kd.S_alloc | apply Kd.S_drewN | apply Kd.S_drew)); exact Kd.S_mono (Kd.S_far (p := ⟨gb184, 1, none⟩) (Kd.S_far (p := ⟨gb184, 0, none⟩) (Kd.S_types HO_3.out BK184.out (by decide)) (fun _ hk => hk.2) (.int .u64 ((rd_T146 ((rd_T134 l0 x11_1).f2) x18_2).f0))) (fun _ hk => hk.2) (.int .i64 ((rd_T146 ((rd_T134 l0 x11_1).f2) x18_2).f1))) (fun _ hk => ⟨trivial, hk.1⟩)) hg hat); have n1_ := Aside0.mk (blk_grown (g := gb182) (o := .cells #[.int .u64 ((rd_T134 l0 x11_1).f0), .int .u64 ((rd_T134 l0 x11_1).f1), .slice (some ad183) ((rd_T134 l0 x11_1).f2).length c181_2] 134 (0, 0)) (by (with_reducible repeat (first | refine blk_drewN ?_ _ | refine blk_drew ?_ | refine blk_alloc ?_ _)); refine blk_far ?_ NB182_184.out _; (with_reducible repeat (first | refine blk_drewN ?_ _ | refine blk_drew ?_ | refine blk_alloc ?_ _)); refine blk_far ?_ NB182_184.out _; (with_reducible repeat (first | refine blk_drewN ?_ _ | refine blk_drew ?_ | refine blk_alloc ?_ _)); exact BK182.out) hg (Kd.R_ne HO_6.out BK182.out (by decide))); have n2_ := Aside0.mk (blk_grown (g := gb184) (o := .cells #[.int .u64 ((rd_T146 ((rd_T134 l0 x11_1).f2) x18_2).f0), .int .i64 ((rd_T146 ((rd_T134 l0 x11_1).f2) x18_2).f1)] 146 (0, 0)) (by (with_reducible repeat (first | refine blk_drewN ?_ _ | refine blk_drew ?_ | refine blk_alloc ?_ _)); refine blk_put (cs := #[.int .u64 ((rd_T146 ((rd_T134 l0 x11_1).f2) x18_2).f0), .int .i64 0]) ?_ 1 _ rfl; (with_reducible repeat (first | refine blk_drewN ?_ _ | refine blk_drew ?_ | refine blk_alloc ?_ _)); refine blk_put (cs := #[.int .u64 0, .int .i64 0]) ?_ 0 _ rfl; (with_reducible repeat (first | refine blk_drewN ?_ _ | refine blk_drew ?_ | refine blk_alloc ?_ _)); exact BK184.out) hg (Kd.R_ne HO_6.out BK184.out (by decide))); have n3_ := Aside0.mk (hb); have n4_ := Aside0.mk (ho); clear HO_3; clear BK182; clear BK184; clear HB; clear HO_6; have HO_3 := n0_; have BK182 := n1_; have BK184 := n2_; have HB := n3_; have HO187 := n4_; clear n0_ n1_ n2_ n3_ n4_; clear ho hb hg hat))
            go_roundg k2
            case measure => have := HK1.out; have := HK2.out; omega
            case rel => exact ⟨(y185), (wrap64 (x18_2 + 1)), eq_, H', ⟨by have := HK1.out; have := HK2.out; omega⟩, ⟨by (with_reducible repeat (first | apply Kd.S_alloc | apply Kd.S_drewN | apply Kd.S_drew)); exact Kd.S_mono HO_3.out (fun _ hk => hk.2)⟩, ⟨rel_ HO187.out⟩, ⟨blkx_ BK182.out⟩, ⟨bel_⟩⟩
           ·rw [if_neg c10] at H
            exact absurd H (by simp)
          ·rw [if_neg c9] at H
           exact absurd H (by simp)
         ·rw [if_neg c8] at H
          exact absurd H (by simp)
        ·rw [if_neg c7] at H
         have c7b0 := decide_eq_false c7
         clear c7
         by_cases c15 : x3_1.length < 3518437208883
         ·rw [if_pos c15] at H
          have LMc15 := Aside0.mk c15
          clear c15
          obtain ⟨y188, hy188⟩ : ∃ y_ : List (S94), y_ = (x3_1 ++ [(⟨((rd_T134 l0 x11_1).f0), ((rd_T134 l0 x11_1).f1), x6_2⟩ : S94)]) := ⟨_, rfl⟩
          replace H : (epicyclelaw14_rows.l0 k2 y188 l0 (l0.length : Int) (wrap64 (x11_1 + 1))) = some r := by first | (rw [hy188]; with_reducible exact H) | (have H2_ := (Option.bind_some _ _).symm.trans H; rw [hy188]; with_reducible exact H2_) | (have H2_ := (Option.bind_some _ _).symm.trans H; with_reducible exact H2_) | with_reducible exact H | (rw [hy188]; exact H) | exact H
          have Ny188 := Aside0.mk hy188
          clear hy188
          have H' := Aside0.mk H
          clear H
          have hcz16_0 := bc_ BK182.out 0 rfl
          have hcz16_1 := bc_ BK182.out 1 rfl
          have hcz16_2 := bc_ BK182.out 2 rfl
          have hfz16_0 := blk_frozen BK182.out 0
          have hfz16_1 := blk_frozen BK182.out 1
          have hfz16_2 := blk_frozen BK182.out 2
          obtain ⟨Ao17, co17, eo17⟩ := Kd.R_slice HO_6.out
          subst eo17
          go_wp2_with (first | ((with_reducible refine gate_builtin (b := .append) (xs := #[.tmp 27, .tmp 34]) rfl ?_); at_builtin; refine Kd.S_append k94 (w0 := w) w.heap.size rfl (.tmp 27) (.tmp 34) 81 94 (.agg #[(.int .u64 0), (.int .u64 0), (.slice none 0 0)]) 40 rfl Tryz.underlying81 info94 rfl (by decide) (by omega) u3 x3_1 (⟨((rd_T134 l0 x11_1).f0), ((rd_T134 l0 x11_1).f1), x6_2⟩ : S94) [.int .u64 ((rd_T134 l0 x11_1).f0), .int .u64 ((rd_T134 l0 x11_1).f1), .slice Ao17 x6_2.length co17] (fun _ => True) (fun k_ => some k_ = (.slice Ao17 x6_2.length co17 : Value).ownBlock) rfl rfl ?aP (fun k_ hk_ => ((Kd.R_mono (ok' := fun k_ => ((fun _ => True)) k_ ∧ some k_ ≠ (u3 : Value).ownBlock) (Kd.R_apart' (HO_6.out) (Kd.S_typed HO_3.out) (by decide)) (fun k_ hk => ⟨trivial, hk.2⟩))).1 k_ hk_.symm) ?aF ?aO ?aB ?aS ?aL ?_; (case aP => exact k94_mkM _ _ _ (⟨((rd_T134 l0 x11_1).f0), ((rd_T134 l0 x11_1).f1), x6_2⟩ : S94) (Kd.R_mono (Kd.R_tight rfl (Kd.R_mono (ok' := fun k_ => ((fun _ => True)) k_ ∧ some k_ ≠ (u3 : Value).ownBlock) (Kd.R_apart' (HO_6.out) (Kd.S_typed HO_3.out) (by decide)) (fun k_ hk => ⟨trivial, hk.2⟩))) (fun _ h_ => h_))); (case aB => exact bel_); (case aF => exact (fun _ _ => trivial)); (case aO => exact (by (with_reducible repeat (first | apply Kd.S_alloc | apply Kd.S_drewN | apply Kd.S_drew)); exact Kd.S_mono HO_3.out (fun k_ hk => ⟨trivial, fun e_ => hk e_⟩))); (case aS => exact (below_size bel_)); (case aL => have := LMc15.out; omega); intro v189 w18 ho hb hg hat; rw [← Ny188.out] at ho; have n0_ := Aside0.mk (blk_grown (g := gb182) (o := .cells #[.int .u64 ((rd_T134 l0 x11_1).f0), .int .u64 ((rd_T134 l0 x11_1).f1), .slice A181_2 ((rd_T134 l0 x11_1).f2).length c181_2] 134 (0, 0)) (blkx_ BK182.out) hg (Kd.S_ne HO_3.out BK182.out (by decide))); have n1_ := Aside0.mk (hb); have n2_ := Aside0.mk (ho); clear BK182; clear HB; clear HO_3; clear HO_6; have BK182 := n0_; have HB := n1_; have HO190 := n2_; clear n0_ n1_ n2_; clear ho hb hg hat))
          go_roundg k2
          case measure => have := HK1.out; have := HK2.out; omega
          case rel => exact ⟨(y188), (wrap64 (x11_1 + 1)), eq_, H', ⟨by have := HK1.out; have := HK2.out; omega⟩, ⟨by (with_reducible repeat (first | apply Kd.S_alloc | apply Kd.S_drewN | apply Kd.S_drew)); exact HO190.out⟩, ⟨bel_⟩⟩
         ·rw [if_neg c15] at H
          exact absurd H (by simp)
     ·rw [if_neg c4] at H
      exact absurd H (by simp)
    ·rw [if_neg c3] at H
     exact absurd H (by simp)
   ·rw [if_neg c2] at H
    have c2b0 := decide_eq_false c2
    clear c2
    obtain rfl := Option.some.inj H
    go_wp2
    go_ret
    exact ⟨_, eq_, by (with_reducible repeat (first | apply Kd.S_alloc | apply Kd.S_drewN | apply Kd.S_drew)); exact HO_3.out, bel_⟩
end Go.Proofs.YtndkmnjbjlfeaaaGreat.XM
end
section
namespace Go.Proofs.YtndkmnjbjlfeaaaGreat.XM
open Go.RowKit Go.Proofs.YtndkmnjbjlfeaaaGreat.Given Go.Proofs.YtndkmnjbjlfeaaaGreat.Row05 Go.Proofs.YtndkmnjbjlfeaaaGreat.XS Go.Proofs.YtndkmnjbjlfeaaaGreat.XT Go.Proofs.YtndkmnjbjlfeaaaGreat.XR Go.Proofs.YtndkmnjbjlfeaaaGreat.F06 Go.Proofs.YtndkmnjbjlfeaaaGreat.XK Go.Proofs.YtndkmnjbjlfeaaaGreat.XW Go.Proofs.YtndkmnjbjlfeaaaGreat.XG Go.Proofs.YtndkmnjbjlfeaaaGreatW.PrintWords Go.Proofs.YtndkmnjbjlfeaaaGreatW.PrintLast Go.Proofs.YtndkmnjbjlfeaaaGreatW.PrintMore
attribute [local go_sem] max2_int min2_int max_two min_two max_three min_three max_four min_four
set_option linter.unusedVariables false
set_option linter.unusedSimpArgs false
noncomputable def epicyclelaw14_made.f (k : Nat) (a0_0 : Int) (a0_1 : Int) (a0_2 : Int) (l0_3 : List (S134)) : Option ((List (Fld)) × Int × Int) := (epicycleref06_Of.f k a0_0 a0_1 a0_2 l0_3).bind fun bt192 => (if a0_0 = 0 then ((field_Small.f k a0_2).bind fun bt195 => (some (bt195.1, bt192.1, bt192.2.1))) else (if a0_0 = 1 then ((field_Known.f k a0_1).bind fun bt199 => (some (bt199.1, bt192.1, bt192.2.1))) else (if (l0_3.length : Int) ≤ 40 then ((epicyclelaw14_rows.f k l0_3).bind fun t203 => ((field_New.f k t203 a0_2).bind fun bt206 => (some (bt206.1, bt192.1, bt192.2.1)))) else (some (([] : List (Fld)), bt192.1, bt192.2.1)))))
def epicyclelaw14_made.T5 : Bool × List (List Nat × List Nat) := (true, [([], []), ([0], [0]), ([1], [1]), ([], []), ([3], [3]), ([2, 4, 2], [2, 4]), ([5], [5]), ([6], [6]), ([6], [6]), ([7, 5, 0, 1, 2, 3, 4, 5, 6, 7], [7])])
def epicyclelaw14_made.B5 : List Nat := [0, 1, 3, 0, 8, 31, 63, 127, 127, 255]
theorem epicyclelaw14_made.tab5 : rtab .any (opsOf Tryz.f32 5) = epicyclelaw14_made.T5 := by kernel_rfl
theorem epicyclelaw14_made.bits5 : waitsOk epicyclelaw14_made.T5.2 epicyclelaw14_made.B5 = true := by kernel_rfl
set_option maxHeartbeats 8000000 in
set_option maxRecDepth 100000 in
theorem epicyclelaw14_made.calls (k : Nat) (a0_0 : Int) (a0_1 : Int) (a0_2 : Int) (A0_3 : Option Addr) (c0_3 : Nat) (l0_3 : List (S134)) (r1 : List (Fld)) (r2 : Int) (r3 : Int) (w : World) (hr0_3 : Kd.C k134 w A0_3 l0_3.length l0_3) (hc0_3 : l0_3.length ≤ c0_3) (h : epicyclelaw14_made.f k a0_0 a0_1 a0_2 l0_3 = some (r1, r2, r3)) :
  Calls Tryz.prog 32 #[.agg #[.int .i64 a0_0, .int .i64 a0_1, .int .u64 a0_2, .slice A0_3 l0_3.length c0_3]] w fun e w' => ∃ v0_ : Value, e = .returned (.tuple #[toPtr v0_, .int .u64 r2, .int .u64 r3]) ∧ Kd.R kFld 97 w' w.heap.size (fun _ => True) v0_ r1 ∧ Below w.heap.size w w' := by
 have hu25 := Tryz.underlying25
 have HR0_3 := Aside0.mk hr0_3
 have HC0_3 := Aside0.mk hc0_3
 clear hr0_3 hc0_3
 have HB := Aside0.mk (Below.refl w.heap.size w)
 have H := h; unfold epicyclelaw14_made.f at H
 clear h
 replace H := Option.bind_eq_some_iff.mp H
 obtain ⟨⟨t192, t193, t194⟩, A20, H⟩ := H
 (try dsimp only at H)
 have A2 := Aside0.mk A20
 clear A20
 by_cases c3 : a0_0 = 0
 ·rw [if_pos c3] at H
  have c3b0 := beq_iff_eq.mpr c3
  have c3b1 := bne_eq_false_iff_eq.mpr c3
  clear c3
  replace H := Option.bind_eq_some_iff.mp H
  obtain ⟨⟨t195, t196⟩, A40, H⟩ := H
  (try dsimp only at H)
  have A4 := Aside0.mk A40
  clear A40
  simp only [Option.some.injEq, Prod.mk.injEq] at H
  obtain ⟨rfl, rfl, rfl⟩ := H
  go_enter Tryz.func32, Tryz.ntmps32
  go_wp2_with (first | ((with_reducible refine gate_dst (N := 1) rfl ?_); refine be_ 1 #[.int .i64 a0_0, .int .i64 a0_1, .int .u64 a0_2, .slice A0_3 l0_3.length c0_3] 25 ?_; intro gb191 hg w5 hbox hb; have n0_ := Aside0.mk (below_step bel_ hb); have n1_ := Aside0.mk (hbox); have n2_ := Aside0.mk ((by rw [hg]; exact (below_size bel_) : w.heap.size ≤ gb191)); have n3_ := Aside0.mk ((by rw [hg]; exact (below_size bel_) : w.heap.size ≤ gb191)); clear HB; have HB := n0_; have BK191 := n1_; have GW191 := n2_; have GE191 := n3_; clear n0_ n1_ n2_ n3_; clear hb hbox hg; have hcz6_0 := bc_ BK191.out 0 rfl; have hcz6_1 := bc_ BK191.out 1 rfl; have hcz6_2 := bc_ BK191.out 2 rfl; have hcz6_3 := bc_ BK191.out 3 rfl; have hfz6_0 := blk_frozen BK191.out 0; have hfz6_1 := blk_frozen BK191.out 1; have hfz6_2 := blk_frozen BK191.out 2; have hfz6_3 := blk_frozen BK191.out 3) | (refine gl_ 11 Tryz.func49 #[.agg #[.int .i64 a0_0, .int .i64 a0_1, .int .u64 a0_2, .slice A0_3 l0_3.length c0_3]] rfl ?_; (with_reducible refine (epicycleref06_Of.calls k a0_0 a0_1 a0_2 _ _ l0_3 t192 t193 t194 _ ?side1 ?side2 A2.out).mono ?_); (case side1 => exact cal_ (Kd.C_below HR0_3.out HB.out)); (case side2 => exact HC0_3.out); rintro e w7 ⟨rfl, hb⟩; refine ⟨_, rfl, ?_⟩; have n0_ := Aside0.mk (blk_below BK191.out hb); have n1_ := Aside0.mk (below_step bel_ hb); clear BK191; clear HB; have BK191 := n0_; have HB := n1_; clear n0_ n1_; have hcz8_0 := bc_ BK191.out 0 rfl; have hcz8_1 := bc_ BK191.out 1 rfl; have hcz8_2 := bc_ BK191.out 2 rfl; have hcz8_3 := bc_ BK191.out 3 rfl; have hfz8_0 := blk_frozen BK191.out 0; have hfz8_1 := blk_frozen BK191.out 1; have hfz8_2 := blk_frozen BK191.out 2; have hfz8_3 := blk_frozen BK191.out 3) | (refine gl_ 35 Tryz.func48 #[.int .u64 a0_2] rfl ?_; (with_reducible refine (field_Small.calls k a0_2 t195 t196 _ A4.out).mono ?_); rintro e w9 ⟨v197, rfl, ho0, hb⟩; refine ⟨_, rfl, ?_⟩; have n0_ := Aside0.mk (Kd.R_lower ho0 (below_size bel_)); have n1_ := Aside0.mk (blk_below BK191.out hb); have n2_ := Aside0.mk (below_step bel_ hb); clear BK191; clear HB; have HO198 := n0_; have BK191 := n1_; have HB := n2_; clear n0_ n1_ n2_; (try clear ho0)))
  go_ret3
  exact ⟨_, eq_, rel_ HO198.out, bel_⟩
 ·rw [if_neg c3] at H
  have c3b0 := beq_eq_false_iff_ne.mpr c3
  have c3b1 := bne_iff_ne.mpr c3
  by_cases c10 : a0_0 = 1
  ·rw [if_pos c10] at H
   have c10b0 := beq_iff_eq.mpr c10
   have c10b1 := bne_eq_false_iff_eq.mpr c10
   clear c10
   replace H := Option.bind_eq_some_iff.mp H
   obtain ⟨⟨t199, t200⟩, A110, H⟩ := H
   (try dsimp only at H)
   have A11 := Aside0.mk A110
   clear A110
   simp only [Option.some.injEq, Prod.mk.injEq] at H
   obtain ⟨rfl, rfl, rfl⟩ := H
   go_enter Tryz.func32, Tryz.ntmps32
   go_wp2_with (first | ((with_reducible refine gate_dst (N := 1) rfl ?_); refine be_ 1 #[.int .i64 a0_0, .int .i64 a0_1, .int .u64 a0_2, .slice A0_3 l0_3.length c0_3] 25 ?_; intro gb191 hg w12 hbox hb; have n0_ := Aside0.mk (below_step bel_ hb); have n1_ := Aside0.mk (hbox); have n2_ := Aside0.mk ((by rw [hg]; exact (below_size bel_) : w.heap.size ≤ gb191)); have n3_ := Aside0.mk ((by rw [hg]; exact (below_size bel_) : w.heap.size ≤ gb191)); clear HB; have HB := n0_; have BK191 := n1_; have GW191 := n2_; have GE191 := n3_; clear n0_ n1_ n2_ n3_; clear hb hbox hg; have hcz13_0 := bc_ BK191.out 0 rfl; have hcz13_1 := bc_ BK191.out 1 rfl; have hcz13_2 := bc_ BK191.out 2 rfl; have hcz13_3 := bc_ BK191.out 3 rfl; have hfz13_0 := blk_frozen BK191.out 0; have hfz13_1 := blk_frozen BK191.out 1; have hfz13_2 := blk_frozen BK191.out 2; have hfz13_3 := blk_frozen BK191.out 3) | (refine gl_ 11 Tryz.func49 #[.agg #[.int .i64 a0_0, .int .i64 a0_1, .int .u64 a0_2, .slice A0_3 l0_3.length c0_3]] rfl ?_; (with_reducible refine (epicycleref06_Of.calls k a0_0 a0_1 a0_2 _ _ l0_3 t192 t193 t194 _ ?side1 ?side2 A2.out).mono ?_); (case side1 => exact cal_ (Kd.C_below HR0_3.out HB.out)); (case side2 => exact HC0_3.out); rintro e w14 ⟨rfl, hb⟩; refine ⟨_, rfl, ?_⟩; have n0_ := Aside0.mk (blk_below BK191.out hb); have n1_ := Aside0.mk (below_step bel_ hb); clear BK191; clear HB; have BK191 := n0_; have HB := n1_; clear n0_ n1_; have hcz15_0 := bc_ BK191.out 0 rfl; have hcz15_1 := bc_ BK191.out 1 rfl; have hcz15_2 := bc_ BK191.out 2 rfl; have hcz15_3 := bc_ BK191.out 3 rfl; have hfz15_0 := blk_frozen BK191.out 0; have hfz15_1 := blk_frozen BK191.out 1; have hfz15_2 := blk_frozen BK191.out 2; have hfz15_3 := blk_frozen BK191.out 3) | (refine gl_ 43 Tryz.func50 #[.int .i64 a0_1] rfl ?_; (with_reducible refine (field_Known.calls k a0_1 t199 t200 _ A11.out).mono ?_); rintro e w16 ⟨v201, rfl, ho0, hb⟩; refine ⟨_, rfl, ?_⟩; have n0_ := Aside0.mk (Kd.R_lower ho0 (below_size bel_)); have n1_ := Aside0.mk (blk_below BK191.out hb); have n2_ := Aside0.mk (below_step bel_ hb); clear BK191; clear HB; have HO202 := n0_; have BK191 := n1_; have HB := n2_; clear n0_ n1_ n2_; (try clear ho0)))
   go_ret3
   exact ⟨_, eq_, rel_ HO202.out, bel_⟩
  ·rw [if_neg c10] at H
   have c10b0 := beq_eq_false_iff_ne.mpr c10
   have c10b1 := bne_iff_ne.mpr c10
   by_cases c17 : (l0_3.length : Int) ≤ 40
   ·rw [if_pos c17] at H
    have c17b0 := decide_eq_true c17
    have c17b1 : decide (l0_3.length ≤ 40) = true := decide_eq_true (by omega)
    clear c17
    replace H := Option.bind_eq_some_iff.mp H
    obtain ⟨t203, A180, H⟩ := H
    (try dsimp only at H)
    have A18 := Aside0.mk A180
    clear A180
    replace H := Option.bind_eq_some_iff.mp H
    obtain ⟨⟨t206, t207⟩, A190, H⟩ := H
    (try dsimp only at H)
    have A19 := Aside0.mk A190
    clear A190
    simp only [Option.some.injEq, Prod.mk.injEq] at H
    obtain ⟨rfl, rfl, rfl⟩ := H
    go_enter Tryz.func32, Tryz.ntmps32
    try go_wp2_with (first | ((with_reducible refine gate_dst (N := 1) rfl ?_); refine be_ 1 #[.int .i64 a0_0, .int .i64 a0_1, .int .u64 a0_2, .slice A0_3 l0_3.length c0_3] 25 ?_; intro gb191 hg w20 hbox hb; have n0_ := Aside0.mk (below_step bel_ hb); have n1_ := Aside0.mk (hbox); have n2_ := Aside0.mk ((by rw [hg]; exact (below_size bel_) : w.heap.size ≤ gb191)); have n3_ := Aside0.mk ((by rw [hg]; exact (below_size bel_) : w.heap.size ≤ gb191)); clear HB; have HB := n0_; have BK191 := n1_; have GW191 := n2_; have GE191 := n3_; clear n0_ n1_ n2_ n3_; clear hb hbox hg; have hcz21_0 := bc_ BK191.out 0 rfl; have hcz21_1 := bc_ BK191.out 1 rfl; have hcz21_2 := bc_ BK191.out 2 rfl; have hcz21_3 := bc_ BK191.out 3 rfl; have hfz21_0 := blk_frozen BK191.out 0; have hfz21_1 := blk_frozen BK191.out 1; have hfz21_2 := blk_frozen BK191.out 2; have hfz21_3 := blk_frozen BK191.out 3) | (refine gl_ 11 Tryz.func49 #[.agg #[.int .i64 a0_0, .int .i64 a0_1, .int .u64 a0_2, .slice A0_3 l0_3.length c0_3]] rfl ?_; (with_reducible refine (epicycleref06_Of.calls k a0_0 a0_1 a0_2 _ _ l0_3 t192 t193 t194 _ ?side1 ?side2 A2.out).mono ?_); (case side1 => exact cal_ (Kd.C_below HR0_3.out HB.out)); (case side2 => exact HC0_3.out); rintro e w22 ⟨rfl, hb⟩; refine ⟨_, rfl, ?_⟩; have n0_ := Aside0.mk (blk_below BK191.out hb); have n1_ := Aside0.mk (below_step bel_ hb); clear BK191; clear HB; have BK191 := n0_; have HB := n1_; clear n0_ n1_; have hcz23_0 := bc_ BK191.out 0 rfl; have hcz23_1 := bc_ BK191.out 1 rfl; have hcz23_2 := bc_ BK191.out 2 rfl; have hcz23_3 := bc_ BK191.out 3 rfl; have hfz23_0 := blk_frozen BK191.out 0; have hfz23_1 := blk_frozen BK191.out 1; have hfz23_2 := blk_frozen BK191.out 2; have hfz23_3 := blk_frozen BK191.out 3))
    have n0_ := Aside0.mk (blk_drew BK191.out)
    have n1_ := Aside0.mk (below_drew1 HB.out)
    clear BK191
    clear HB
    have BK191 := n0_
    have HB := n1_
    clear n0_ n1_
    refine start_ (n := 10) (S := fun w' => w'.cell? ⟨gb191, 0, none⟩ = some (.int .i64 a0_0) ∧ w'.cell? ⟨gb191, 1, none⟩ = some (.int .i64 a0_1) ∧ w'.cell? ⟨gb191, 2, none⟩ = some (.int .u64 a0_2) ∧ w'.cell? ⟨gb191, 3, none⟩ = some (.slice A0_3 l0_3.length c0_3)) (ds := []) #[false, false, false, false, false, false, false, false, false, false] (by kernel_rfl) rfl rfl ⟨(blk_cell BK191.out 0).trans rfl, (blk_cell BK191.out 1).trans rfl, (blk_cell BK191.out 2).trans rfl, (blk_cell BK191.out 3).trans rfl⟩ (fun hHeld => ?_); refine with_tabW epicyclelaw14_made.tab5 epicyclelaw14_made.bits5 (fun HT_ HW_ => ?_)
    generalize w22.drew = w24 at BK191 HB hHeld ⊢
    refine pT_ 0 22 HT_ rfl rfl ?_
    refine pT_ 3 25 HT_ rfl rfl ?_
    refine tS_ 1 23 (take_ofW HT_.out HW_.out (by kernel_rfl)) hHeld (by rintro w' ⟨s0, s1, s2, s3⟩; go_simp; with_reducible rfl) rfl rfl ?_
    refine tS_ 4 26 (take_ofW HT_.out HW_.out (by kernel_rfl)) hHeld (by rintro w' ⟨s0, s1, s2, s3⟩; go_simp; with_reducible rfl) rfl rfl ?_
    refine one_ (i := 2) (N := some 24) #[true, true, true, true, true, false, false, false, false, false] rfl rfl (one_of HT_.out (by kernel_rfl)) (by decide) (fun K hK => ?_)
    refine goes_ Tryz.func65 (by kernel_rfl) rfl #[.slice A0_3 l0_3.length c0_3] (by rfl) rfl rfl ga_ ?_
    with_reducible refine (epicyclelaw14_rows.calls k _ _ l0_3 t203 _ ?side1 ?side2 A18.out).mono ?_
    (case side1 => exact cal_ (Kd.C_below HR0_3.out HB.out))
    (case side2 => exact HC0_3.out)
    rintro e w25 ⟨v204, rfl, ho0, hb⟩
    refine ⟨_, rfl, ?_⟩
    have n0_ := Aside0.mk (Kd.S_lower ho0 (below_size bel_))
    have n1_ := Aside0.mk (blk_below BK191.out hb)
    have n2_ := Aside0.mk (below_step bel_ hb)
    clear BK191
    clear HB
    have HO205 := n0_
    have BK191 := n1_
    have HB := n2_
    clear n0_ n1_ n2_
    (try clear hb)
    (try clear hb2)
    (try clear hk)
    (try clear hi)
    (try clear ho0)
    obtain ⟨Ao26, co26, eo26⟩ := Kd.S_slice HO205.out
    (first | subst eo26 | (injection eo26 with f1_ f2_ f3_; have f4_ := f1_.symm; have f5_ := f3_.symm; clear f1_ f2_ f3_; subst f4_; subst f5_))
    refine hK.out _ _ ⟨(blk_cell BK191.out 0).trans rfl, (blk_cell BK191.out 1).trans rfl, (blk_cell BK191.out 2).trans rfl, (blk_cell BK191.out 3).trans rfl⟩ (fun hHeld => ?_)
    clear hK K
    refine nS_ ?_
    refine one_ (i := 5) (N := some 27) #[true, true, true, true, true, true, false, false, false, false] rfl rfl (one_of HT_.out (by kernel_rfl)) (by decide) (fun K hK => ?_)
    refine goes_ Tryz.func51 (by kernel_rfl) rfl #[.slice Ao26 t203.length co26, .int .u64 a0_2] (by rfl) rfl rfl ga_ ?_
    with_reducible refine (field_New.calls k _ _ t203 a0_2 t206 t207 _ ?side1 ?side2 A19.out).mono ?_
    (case side1 => repeat (first | exact (Kd.S_reads' HO205.out).2.2 | (with_reducible refine Kd.C_alloc ?_ _) | (with_reducible refine Kd.C_drewN ?_ _) | (with_reducible refine Kd.C_drew ?_)))
    (case side2 => exact (Kd.S_reads' HO205.out).2.1)
    rintro e w27 ⟨v208, rfl, ho0, hb⟩
    refine ⟨_, rfl, ?_⟩
    have n0_ := Aside0.mk (Kd.S_below (by (with_reducible repeat (first | apply Kd.S_alloc | apply Kd.S_drewN | apply Kd.S_drew)); exact HO205.out) hb)
    have n1_ := Aside0.mk (Kd.R_lower ho0 (below_size bel_))
    have n2_ := Aside0.mk (blk_below BK191.out hb)
    have n3_ := Aside0.mk (below_step bel_ hb)
    clear HO205
    clear BK191
    clear HB
    have HO205 := n0_
    have HO209 := n1_
    have BK191 := n2_
    have HB := n3_
    clear n0_ n1_ n2_ n3_
    (try clear hb)
    (try clear hb2)
    (try clear hk)
    (try clear hi)
    (try clear ho0)
    refine hK.out _ _ ⟨(blk_cell BK191.out 0).trans rfl, (blk_cell BK191.out 1).trans rfl, (blk_cell BK191.out 2).trans rfl, (blk_cell BK191.out 3).trans rfl⟩ (fun hHeld => ?_)
    clear hK K
    refine nS_ ?_
    refine pT_ 6 21 HT_ rfl rfl ?_
    refine pT_ 7 28 HT_ rfl rfl ?_
    refine pT_ 8 29 HT_ rfl rfl ?_
    refine pT_ 9 8 HT_ rfl rfl ?_
    refine done_ (done_of HT_.out (by kernel_rfl)) ?_
    try go_wp2
    go_ret3
    exact ⟨_, eq_, rel_ HO209.out, bel_⟩
   ·rw [if_neg c17] at H
    have c17b0 := decide_eq_false c17
    have c17b1 : decide (l0_3.length ≤ 40) = false := decide_eq_false (by omega)
    clear c17
    simp only [Option.some.injEq, Prod.mk.injEq] at H
    obtain ⟨rfl, rfl, rfl⟩ := H
    go_enter Tryz.func32, Tryz.ntmps32
    go_wp2_with (first | ((with_reducible refine gate_dst (N := 1) rfl ?_); refine be_ 1 #[.int .i64 a0_0, .int .i64 a0_1, .int .u64 a0_2, .slice A0_3 l0_3.length c0_3] 25 ?_; intro gb191 hg w28 hbox hb; have n0_ := Aside0.mk (below_step bel_ hb); have n1_ := Aside0.mk (hbox); have n2_ := Aside0.mk ((by rw [hg]; exact (below_size bel_) : w.heap.size ≤ gb191)); have n3_ := Aside0.mk ((by rw [hg]; exact (below_size bel_) : w.heap.size ≤ gb191)); clear HB; have HB := n0_; have BK191 := n1_; have GW191 := n2_; have GE191 := n3_; clear n0_ n1_ n2_ n3_; clear hb hbox hg; have hcz29_0 := bc_ BK191.out 0 rfl; have hcz29_1 := bc_ BK191.out 1 rfl; have hcz29_2 := bc_ BK191.out 2 rfl; have hcz29_3 := bc_ BK191.out 3 rfl; have hfz29_0 := blk_frozen BK191.out 0; have hfz29_1 := blk_frozen BK191.out 1; have hfz29_2 := blk_frozen BK191.out 2; have hfz29_3 := blk_frozen BK191.out 3) | (refine gl_ 11 Tryz.func49 #[.agg #[.int .i64 a0_0, .int .i64 a0_1, .int .u64 a0_2, .slice A0_3 l0_3.length c0_3]] rfl ?_; (with_reducible refine (epicycleref06_Of.calls k a0_0 a0_1 a0_2 _ _ l0_3 t192 t193 t194 _ ?side1 ?side2 A2.out).mono ?_); (case side1 => exact cal_ (Kd.C_below HR0_3.out HB.out)); (case side2 => exact HC0_3.out); rintro e w30 ⟨rfl, hb⟩; refine ⟨_, rfl, ?_⟩; have n0_ := Aside0.mk (blk_below BK191.out hb); have n1_ := Aside0.mk (below_step bel_ hb); clear BK191; clear HB; have BK191 := n0_; have HB := n1_; clear n0_ n1_; have hcz31_0 := bc_ BK191.out 0 rfl; have hcz31_1 := bc_ BK191.out 1 rfl; have hcz31_2 := bc_ BK191.out 2 rfl; have hcz31_3 := bc_ BK191.out 3 rfl; have hfz31_0 := blk_frozen BK191.out 0; have hfz31_1 := blk_frozen BK191.out 1; have hfz31_2 := blk_frozen BK191.out 2; have hfz31_3 := blk_frozen BK191.out 3))
    go_ret3
    exact ⟨(.slice none 0 0), eq_, nl_, bel_⟩
mutual
noncomputable def epicycleref14_Radices.j0 : Nat → Int → List Int → Bool → Option (List Int × Bool)
 | 0, _, _, _ => none
 | k + 1, x0, x4, x11 => if x11 = true then (some (x4, false)) else (epicycleref14_Radices.l0 k x0 x4)
noncomputable def epicycleref14_Radices.l0 : Nat → Int → List Int → Option (List Int × Bool)
 | 0, _, _ => none
 | k + 1, x0, x4 => if x0 > 1 then (epicycleref14_Radices.l1 k x0 x4 2) else (some (x4, true))
noncomputable def epicycleref14_Radices.l1 : Nat → Int → List Int → Int → Option (List Int × Bool)
 | 0, _, _, _ => none
 | k + 1, x0, x4, x5 => if x5 < 8 then (if x5 = 0 then (none) else (epicycleref14_Radices.j3 k x0 x4 x5 ((Int.tmod x0 x5) != 0))) else (epicycleref14_Radices.j3 k x0 x4 x5 false)
noncomputable def epicycleref14_Radices.j3 : Nat → Int → List Int → Int → Bool → Option (List Int × Bool)
 | 0, _, _, _, _ => none
 | k + 1, x0, x4, x5, x22 => if x22 = true then (epicycleref14_Radices.l1 k x0 x4 (wrap64 (x5 + 1))) else (if x5 = 8 then (some (([] : List Int), false)) else (if x4.length < 17592186044416 then (if x5 = 0 then (none) else (epicycleref14_Radices.l0 k (wrap64 (Int.tdiv x0 x5)) (x4 ++ [x5]))) else (none)))
end
noncomputable def epicycleref14_Radices.f (k : Nat) (a0 : Int) : Option (List Int × Bool) := if a0 < 1 then (epicycleref14_Radices.j0 k a0 ([] : List Int) true) else (epicycleref14_Radices.j0 k a0 ([] : List Int) (decide (a0 > 1024)))
theorem epicycleref14_Radices.mono_l : ∀ k, (∀ y0 y1 y2, LeO (epicycleref14_Radices.j0 k y0 y1 y2) (epicycleref14_Radices.j0 (k + 1) y0 y1 y2)) ∧ (∀ y0 y1, LeO (epicycleref14_Radices.l0 k y0 y1) (epicycleref14_Radices.l0 (k + 1) y0 y1)) ∧ (∀ y0 y1 y2, LeO (epicycleref14_Radices.l1 k y0 y1 y2) (epicycleref14_Radices.l1 (k + 1) y0 y1 y2)) ∧ (∀ y0 y1 y2 y3, LeO (epicycleref14_Radices.j3 k y0 y1 y2 y3) (epicycleref14_Radices.j3 (k + 1) y0 y1 y2 y3))
 | 0 => ⟨fun _ _ _ r h => by simp [epicycleref14_Radices.j0] at h, fun _ _ r h => by simp [epicycleref14_Radices.l0] at h, fun _ _ _ r h => by simp [epicycleref14_Radices.l1] at h, fun _ _ _ _ r h => by simp [epicycleref14_Radices.j3] at h⟩
 | k + 1 => by
  obtain ⟨ih0, ih1, ih2, ih3⟩ := epicycleref14_Radices.mono_l k
  refine ⟨?_, ?_, ?_, ?_⟩
  ·intro y0 y1 y2
   unfold epicycleref14_Radices.j0
   repeat' first
   | (with_reducible exact ih0 _ _ _)
   | (with_reducible exact ih1 _ _)
   | (with_reducible exact ih2 _ _ _)
   | (with_reducible exact ih3 _ _ _ _)
   | (with_reducible exact LeO.refl _)
   | (with_reducible exact LeO.none _)
   | (with_reducible refine LeO.ite ?_ ?_)
   | (with_reducible refine LeO.bind ?_ (fun _ => ?_))
  ·intro y0 y1
   unfold epicycleref14_Radices.l0
   repeat' first
   | (with_reducible exact ih0 _ _ _)
   | (with_reducible exact ih1 _ _)
   | (with_reducible exact ih2 _ _ _)
   | (with_reducible exact ih3 _ _ _ _)
   | (with_reducible exact LeO.refl _)
   | (with_reducible exact LeO.none _)
   | (with_reducible refine LeO.ite ?_ ?_)
   | (with_reducible refine LeO.bind ?_ (fun _ => ?_))
  ·intro y0 y1 y2
   unfold epicycleref14_Radices.l1
   repeat' first
   | (with_reducible exact ih0 _ _ _)
   | (with_reducible exact ih1 _ _)
   | (with_reducible exact ih2 _ _ _)
   | (with_reducible exact ih3 _ _ _ _)
   | (with_reducible exact LeO.refl _)
   | (with_reducible exact LeO.none _)
   | (with_reducible refine LeO.ite ?_ ?_)
   | (with_reducible refine LeO.bind ?_ (fun _ => ?_))
  ·intro y0 y1 y2 y3
   unfold epicycleref14_Radices.j3
   repeat' first
   | (with_reducible exact ih0 _ _ _)
   | (with_reducible exact ih1 _ _)
   | (with_reducible exact ih2 _ _ _)
   | (with_reducible exact ih3 _ _ _ _)
   | (with_reducible exact LeO.refl _)
   | (with_reducible exact LeO.none _)
   | (with_reducible refine LeO.ite ?_ ?_)
   | (with_reducible refine LeO.bind ?_ (fun _ => ?_))
theorem epicycleref14_Radices.mono : ∀ a0 k, LeO (epicycleref14_Radices.f k a0) (epicycleref14_Radices.f (k + 1) a0) := by
 intro a0 k
 obtain ⟨ih0, ih1, ih2, ih3⟩ := epicycleref14_Radices.mono_l k
 unfold epicycleref14_Radices.f
 repeat' first
   | (with_reducible exact ih0 _ _ _)
   | (with_reducible exact ih1 _ _)
   | (with_reducible exact ih2 _ _ _)
   | (with_reducible exact ih3 _ _ _ _)
   | (with_reducible exact LeO.refl _)
   | (with_reducible exact LeO.none _)
   | (with_reducible refine LeO.ite ?_ ?_)
   | (with_reducible refine LeO.bind ?_ (fun _ => ?_))
set_option maxHeartbeats 8000000 in
set_option maxRecDepth 100000 in
theorem epicycleref14_Radices.calls (k : Nat) (a0 : Int) (r1 : List Int) (r2 : Bool) (w : World) (h : epicycleref14_Radices.f k a0 = some (r1, r2)) :
  Calls Tryz.prog 69 #[.int .i64 a0] w fun e w' => ∃ v0_ : Value, e = .returned (.tuple #[v0_, .bool r2]) ∧ Kd.R (Kd.int .i64) 3 w' w.heap.size (fun _ => True) v0_ r1 ∧ Below w.heap.size w w' := by
 have HB := Aside0.mk (Below.refl w.heap.size w)
 have H := h; unfold epicycleref14_Radices.f at H
 clear h
 have HC2 := Aside0.mk H
 clear H
 go_enter Tryz.func69, Tryz.ntmps69
 go_upto_region 2 with (fail)
 go_cut [11] (fun v11 wc => ∃ (kq : Nat) (x11_1 : Bool), v11 = .bool x11_1 ∧ Aside0 (epicycleref14_Radices.j0 kq a0 ([] : List Int) x11_1 = some (r1, r2)) ∧ Aside0 (kq ≤ k) ∧ Aside0 (Kd.R (Kd.int .i64) 3 wc w.heap.size (fun _ => True) (.slice none 0 0) ([] : List Int)) ∧ Aside0 (Below w.heap.size w wc))
 case first =>
  have H := HC2.out
  clear HC2
  by_cases c3 : a0 < 1
  ·rw [if_pos c3] at H
   have c3b0 := decide_eq_true c3
   clear c3
   (first | rw [c3b0] | (simp only [i64_w, i32_w]; rw [c3b0]) | skip)
   have H' := Aside0.mk H
   clear H
   go_wp2
   go_meet
   case rel => exact ⟨_, (true), eq_, H', ⟨by first | omega | exact Nat.le_refl _⟩, ⟨nl_⟩, ⟨bel_⟩⟩
  ·rw [if_neg c3] at H
   have c3b0 := decide_eq_false c3
   clear c3
   (first | rw [c3b0] | (simp only [i64_w, i32_w]; rw [c3b0]) | skip)
   have H' := Aside0.mk H
   clear H
   go_wp2
   go_meet
   case rel => exact ⟨_, (decide (a0 > 1024)), eq_, H', ⟨by first | omega | exact Nat.le_refl _⟩, ⟨nl_⟩, ⟨bel_⟩⟩
 case rest =>
  clear HC2
  obtain ⟨kq, x11_1, rfl, HA, HJ1, HO_4, HB⟩ := hcut
  cases kq with
  | zero => exact absurd HA.out (by simp [epicycleref14_Radices.j0])
  | succ kj1 =>
   have H := HA.out
   clear HA
   simp only [epicycleref14_Radices.j0] at H
   by_cases c4 : x11_1 = true
   ·subst c4
    have H1 := H; rw [if_pos rfl] at H1
    clear H
    have H := H1
    clear H1
    simp only [Option.some.injEq, Prod.mk.injEq] at H
    obtain ⟨rfl, rfl⟩ := H
    go_wp2
    go_ret2
    exact ⟨_, eq_, rel_ HO_4.out, bel_⟩
   ·replace c4 := Bool.eq_false_iff.mpr c4
    subst c4
    have H1 := H; rw [if_neg (show ¬ (false = true) by decide)] at H1
    clear H
    have H := H1
    clear H1
    have H' := Aside0.mk H
    clear H
    go_wp2
    go_loopg [0, 4] kj1 (fun kq v0 v4 w' => ∃ (x0_2 : Int) (x4_2 : List Int), v0 = .int .i64 x0_2 ∧ Aside0 (epicycleref14_Radices.l0 kq x0_2 x4_2 = some (r1, r2)) ∧ Aside0 (kq ≤ kj1) ∧ Aside0 (Kd.R (Kd.int .i64) 3 w' w.heap.size (fun _ => True) v4 x4_2) ∧ Aside0 (Below w.heap.size w w'))
    case atStart => exact ⟨(a0), (([] : List Int)), eq_, H', ⟨Nat.le_refl _⟩, ⟨rel_ HO_4.out⟩, ⟨bel_⟩⟩
    case round =>
     clear H'
     obtain ⟨x0_2, x4_2, rfl, HA, HK2, HO_4, HB⟩ := hrel
     cases gk with
     | zero => exact absurd HA.out (by simp [epicycleref14_Radices.l0])
     | succ k2 =>
      have H := HA.out
      clear HA
      simp only [epicycleref14_Radices.l0] at H
      by_cases c5 : x0_2 > 1
      ·rw [if_pos c5] at H
       have c5b0 := decide_eq_true c5
       clear c5
       have H' := Aside0.mk H
       clear H
       go_wp2
       go_loopg [5] k2 (fun kq v5 w' => ∃ (x5_3 : Int), v5 = .int .i64 x5_3 ∧ Aside0 (epicycleref14_Radices.l1 kq x0_2 x4_2 x5_3 = some (r1, r2)) ∧ Aside0 (kq ≤ k2) ∧ Aside0 (Kd.R (Kd.int .i64) 3 w' w.heap.size (fun _ => True) u4 x4_2) ∧ Aside0 (Below w.heap.size w w'))
       case atStart => exact ⟨(2), eq_, H', ⟨Nat.le_refl _⟩, ⟨rel_ HO_4.out⟩, ⟨bel_⟩⟩
       case round =>
        clear H'
        obtain ⟨x5_3, rfl, HA, HK3, HO_4, HB⟩ := hrel
        cases gk with
        | zero => exact absurd HA.out (by simp [epicycleref14_Radices.l1])
        | succ k3 =>
         have H := HA.out
         clear HA
         simp only [epicycleref14_Radices.l1] at H
         have HC6 := Aside0.mk H
         clear H
         go_upto_region 6 with (fail)
         go_cut [22] (fun v22 wc => ∃ (kq : Nat) (x22_5 : Bool), v22 = .bool x22_5 ∧ Aside0 (epicycleref14_Radices.j3 kq x0_2 x4_2 x5_3 x22_5 = some (r1, r2)) ∧ Aside0 (kq ≤ k3) ∧ Aside0 (Kd.R (Kd.int .i64) 3 wc w.heap.size (fun _ => True) u4 x4_2) ∧ Aside0 (Below w.heap.size w wc))
         case first =>
          have H := HC6.out
          clear HC6
          by_cases c7 : x5_3 < 8
          ·rw [if_pos c7] at H
           have c7b0 := decide_eq_true c7
           clear c7
           (first | rw [c7b0] | (simp only [i64_w, i32_w]; rw [c7b0]) | skip)
           by_cases c8 : x5_3 = 0
           ·rw [if_pos c8] at H
            exact absurd H (by simp)
           ·rw [if_neg c8] at H
            have c8b0 := beq_eq_false_iff_ne.mpr c8
            have c8b1 := bne_iff_ne.mpr c8
            have H' := Aside0.mk H
            clear H
            go_wp2
            go_meet
            case rel => exact ⟨_, (((Int.tmod x0_2 x5_3) != 0)), eq_, H', ⟨by have := HJ1.out; have := HK2.out; have := HK3.out; first | omega | exact Nat.le_refl _⟩, ⟨rel_ HO_4.out⟩, ⟨bel_⟩⟩
          ·rw [if_neg c7] at H
           have c7b0 := decide_eq_false c7
           clear c7
           (first | rw [c7b0] | (simp only [i64_w, i32_w]; rw [c7b0]) | skip)
           have H' := Aside0.mk H
           clear H
           go_wp2
           go_meet
           case rel => exact ⟨_, (false), eq_, H', ⟨by have := HJ1.out; have := HK2.out; have := HK3.out; first | omega | exact Nat.le_refl _⟩, ⟨rel_ HO_4.out⟩, ⟨bel_⟩⟩
         case rest =>
          clear HC6
          obtain ⟨kq, x22_5, rfl, HA, HJ5, HO_4, HB⟩ := hcut
          cases kq with
          | zero => exact absurd HA.out (by simp [epicycleref14_Radices.j3])
          | succ kj5 =>
           have H := HA.out
           clear HA
           simp only [epicycleref14_Radices.j3] at H
           by_cases c9 : x22_5 = true
           ·subst c9
            have H1 := H; rw [if_pos rfl] at H1
            clear H
            have H := H1
            clear H1
            have H' := Aside0.mk H
            clear H
            go_wp2
            go_roundg kj5
            case measure => have := HJ1.out; have := HK2.out; have := HK3.out; have := HJ5.out; omega
            case rel => exact ⟨(wrap64 (x5_3 + 1)), eq_, H', ⟨by have := HJ1.out; have := HK2.out; have := HK3.out; have := HJ5.out; omega⟩, ⟨rel_ HO_4.out⟩, ⟨bel_⟩⟩
           ·replace c9 := Bool.eq_false_iff.mpr c9
            subst c9
            have H1 := H; rw [if_neg (show ¬ (false = true) by decide)] at H1
            clear H
            have H := H1
            clear H1
            by_cases c10 : x5_3 = 8
            ·rw [if_pos c10] at H
             have c10b0 := beq_iff_eq.mpr c10
             have c10b1 := bne_eq_false_iff_eq.mpr c10
             clear c10
             simp only [Option.some.injEq, Prod.mk.injEq] at H
             obtain ⟨rfl, rfl⟩ := H
             go_wp2
             go_ret2
             exact ⟨_, eq_, nl_, bel_⟩
            ·rw [if_neg c10] at H
             have c10b0 := beq_eq_false_iff_ne.mpr c10
             have c10b1 := bne_iff_ne.mpr c10
             by_cases c11 : x4_2.length < 17592186044416
             ·rw [if_pos c11] at H
              have LMc11 := Aside0.mk c11
              clear c11
              obtain ⟨y210, hy210⟩ : ∃ y_ : List Int, y_ = (x4_2 ++ [x5_3]) := ⟨_, rfl⟩
              replace H : (if x5_3 = 0 then (none) else (epicycleref14_Radices.l0 kj5 (wrap64 (Int.tdiv x0_2 x5_3)) y210)) = some (r1, r2) := by first | (rw [hy210]; with_reducible exact H) | (have H2_ := (Option.bind_some _ _).symm.trans H; rw [hy210]; with_reducible exact H2_) | (have H2_ := (Option.bind_some _ _).symm.trans H; with_reducible exact H2_) | with_reducible exact H | (rw [hy210]; exact H) | exact H
              have Ny210 := Aside0.mk hy210
              clear hy210
              by_cases c12 : x5_3 = 0
              ·rw [if_pos c12] at H
               exact absurd H (by simp)
              ·rw [if_neg c12] at H
               have c12b0 := beq_eq_false_iff_ne.mpr c12
               have c12b1 := bne_iff_ne.mpr c12
               have H' := Aside0.mk H
               clear H
               go_wp2_with (first | ((with_reducible refine gate_builtin (b := .append) (xs := #[.tmp 27, .tmp 29]) rfl ?_); at_builtin; refine Kd.R_append (Kd.int .i64) (w0 := w) w.heap.size rfl (.tmp 27) (.tmp 29) 98 3 (.int .i64 0) 8 rfl Tryz.underlying98 info3 rfl (by decide) (by omega) u4 x4_2 x5_3 [.int .i64 x5_3] (fun _ => True) (fun _ => False) rfl rfl ?aP (fun _ hk => hk.elim) ?aF ?aO ?aB ?aS ?aL ?_; (case aP => exact rfl); (case aB => exact bel_); (case aF => exact (fun _ _ => trivial)); (case aO => exact (rel_ HO_4.out)); (case aS => exact (below_size bel_)); (case aL => have := LMc11.out; omega); intro v211 w13 ho hb hg hat; rw [← Ny210.out] at ho; have n0_ := Aside0.mk (hb); have n1_ := Aside0.mk (ho); clear HB; clear HO_4; have HB := n0_; have HO212 := n1_; clear n0_ n1_; clear ho hb hg hat))
               go_roundg kj5
               case measure => have := HJ1.out; have := HK2.out; have := HK3.out; have := HJ5.out; omega
               case rel => exact ⟨(wrap64 (Int.tdiv x0_2 x5_3)), (y210), eq_, H', ⟨by have := HJ1.out; have := HK2.out; have := HK3.out; have := HJ5.out; omega⟩, ⟨rel_ HO212.out⟩, ⟨bel_⟩⟩
             ·rw [if_neg c11] at H
              exact absurd H (by simp)
      ·rw [if_neg c5] at H
       have c5b0 := decide_eq_false c5
       clear c5
       simp only [Option.some.injEq, Prod.mk.injEq] at H
       obtain ⟨rfl, rfl⟩ := H
       go_wp2
       go_ret2
       exact ⟨_, eq_, rel_ HO_4.out, bel_⟩
noncomputable def epicycleref14_Fault.f (k : Nat) (a0 : Int) (l1 : List Int) : Option (Int) := (epicycleref11_Check.f a0 (l1.length : Int) 1024).bind fun t213 => (if t213 = 0 then ((epicycleref14_Radices.f k (l1.length : Int)).bind fun bt214 => (if bt214.2 = true then ((epicycleref11_Good.f k a0 l1).bind fun t218 => (if t218 = true then (some 0) else (some 9))) else (some 11))) else (some t213))
set_option maxHeartbeats 8000000 in
set_option maxRecDepth 100000 in
theorem epicycleref14_Fault.calls (k : Nat) (a0 : Int) (A1 : Option Addr) (c1 : Nat) (l1 : List Int) (r : Int) (w : World) (hr1 : Kd.C (Kd.int .u64) w A1 l1.length l1) (hc1 : l1.length ≤ c1) (h : epicycleref14_Fault.f k a0 l1 = some r) :
  Calls Tryz.prog 35 #[.int .u64 a0, .slice A1 l1.length c1] w fun e w' => e = .returned (.int .i64 r) ∧ Below w.heap.size w w' := by
 have HR1 := Aside0.mk hr1
 have HC1 := Aside0.mk hc1
 clear hr1 hc1
 have HB := Aside0.mk (Below.refl w.heap.size w)
 have H := h; unfold epicycleref14_Fault.f at H
 clear h
 replace H := Option.bind_eq_some_iff.mp H
 obtain ⟨t213, A30, H⟩ := H
 (try dsimp only at H)
 have A3 := Aside0.mk A30
 clear A30
 by_cases c4 : t213 = 0
 ·rw [if_pos c4] at H
  have c4b0 := beq_iff_eq.mpr c4
  have c4b1 := bne_eq_false_iff_eq.mpr c4
  clear c4
  replace H := Option.bind_eq_some_iff.mp H
  obtain ⟨⟨t214, t215⟩, A50, H⟩ := H
  (try dsimp only at H)
  have A5 := Aside0.mk A50
  clear A50
  by_cases c6 : t215 = true
  ·subst c6
   have H1 := H; rw [if_pos rfl] at H1
   clear H
   have H := H1
   clear H1
   replace H := Option.bind_eq_some_iff.mp H
   obtain ⟨t218, A70, H⟩ := H
   (try dsimp only at H)
   have A7 := Aside0.mk A70
   clear A70
   by_cases c8 : t218 = true
   ·subst c8
    have H1 := H; rw [if_pos rfl] at H1
    clear H
    have H := H1
    clear H1
    obtain rfl := Option.some.inj H
    go_enter Tryz.func35, Tryz.ntmps35
    go_wp2_with (first | (refine gl_ 11 Tryz.func20 #[.int .u64 a0, .int .i64 (l1.length : Int), .int .i64 1024] rfl ?_; (with_reducible refine (epicycleref11_Check.calls a0 (l1.length : Int) 1024 t213 _ A3.out).mono ?_); rintro e w' ⟨rfl, ⟨nd, rfl⟩⟩; refine ⟨_, rfl, ?_⟩) | (refine gl_ 18 Tryz.func69 #[.int .i64 (l1.length : Int)] rfl ?_; (with_reducible refine (epicycleref14_Radices.calls k (l1.length : Int) t214 true _ A5.out).mono ?_); rintro e w9 ⟨v216, rfl, ho0, hb⟩; refine ⟨_, rfl, ?_⟩; have n0_ := Aside0.mk (Kd.R_lower ho0 (below_size bel_)); have n1_ := Aside0.mk (below_step bel_ hb); clear HB; have HO217 := n0_; have HB := n1_; clear n0_ n1_; (try clear ho0)) | (refine gl_ 25 Tryz.func21 #[.int .u64 a0, .slice A1 l1.length c1] rfl ?_; (with_reducible refine (epicycleref11_Good.calls k a0 _ _ l1 true _ ?side1 ?side2 A7.out).mono ?_); (case side1 => exact cal_ (Kd.C_below HR1.out HB.out)); (case side2 => exact HC1.out); rintro e w' ⟨rfl, ⟨nd, rfl⟩⟩; refine ⟨_, rfl, ?_⟩))
    go_ret
    exact ⟨eq_, bel_⟩
   ·replace c8 := Bool.eq_false_iff.mpr c8
    subst c8
    have H1 := H; rw [if_neg (show ¬ (false = true) by decide)] at H1
    clear H
    have H := H1
    clear H1
    obtain rfl := Option.some.inj H
    go_enter Tryz.func35, Tryz.ntmps35
    go_wp2_with (first | (refine gl_ 11 Tryz.func20 #[.int .u64 a0, .int .i64 (l1.length : Int), .int .i64 1024] rfl ?_; (with_reducible refine (epicycleref11_Check.calls a0 (l1.length : Int) 1024 t213 _ A3.out).mono ?_); rintro e w' ⟨rfl, ⟨nd, rfl⟩⟩; refine ⟨_, rfl, ?_⟩) | (refine gl_ 18 Tryz.func69 #[.int .i64 (l1.length : Int)] rfl ?_; (with_reducible refine (epicycleref14_Radices.calls k (l1.length : Int) t214 true _ A5.out).mono ?_); rintro e w10 ⟨v216, rfl, ho0, hb⟩; refine ⟨_, rfl, ?_⟩; have n0_ := Aside0.mk (Kd.R_lower ho0 (below_size bel_)); have n1_ := Aside0.mk (below_step bel_ hb); clear HB; have HO217 := n0_; have HB := n1_; clear n0_ n1_; (try clear ho0)) | (refine gl_ 25 Tryz.func21 #[.int .u64 a0, .slice A1 l1.length c1] rfl ?_; (with_reducible refine (epicycleref11_Good.calls k a0 _ _ l1 false _ ?side1 ?side2 A7.out).mono ?_); (case side1 => exact cal_ (Kd.C_below HR1.out HB.out)); (case side2 => exact HC1.out); rintro e w' ⟨rfl, ⟨nd, rfl⟩⟩; refine ⟨_, rfl, ?_⟩))
    go_ret
    exact ⟨eq_, bel_⟩
  ·replace c6 := Bool.eq_false_iff.mpr c6
   subst c6
   have H1 := H; rw [if_neg (show ¬ (false = true) by decide)] at H1
   clear H
   have H := H1
   clear H1
   obtain rfl := Option.some.inj H
   go_enter Tryz.func35, Tryz.ntmps35
   go_wp2_with (first | (refine gl_ 11 Tryz.func20 #[.int .u64 a0, .int .i64 (l1.length : Int), .int .i64 1024] rfl ?_; (with_reducible refine (epicycleref11_Check.calls a0 (l1.length : Int) 1024 t213 _ A3.out).mono ?_); rintro e w' ⟨rfl, ⟨nd, rfl⟩⟩; refine ⟨_, rfl, ?_⟩) | (refine gl_ 18 Tryz.func69 #[.int .i64 (l1.length : Int)] rfl ?_; (with_reducible refine (epicycleref14_Radices.calls k (l1.length : Int) t214 false _ A5.out).mono ?_); rintro e w11 ⟨v216, rfl, ho0, hb⟩; refine ⟨_, rfl, ?_⟩; have n0_ := Aside0.mk (Kd.R_lower ho0 (below_size bel_)); have n1_ := Aside0.mk (below_step bel_ hb); clear HB; have HO217 := n0_; have HB := n1_; clear n0_ n1_; (try clear ho0)))
   go_ret
   exact ⟨eq_, bel_⟩
 ·rw [if_neg c4] at H
  have c4b0 := beq_eq_false_iff_ne.mpr c4
  have c4b1 := bne_iff_ne.mpr c4
  obtain rfl := Option.some.inj H
  go_enter Tryz.func35, Tryz.ntmps35
  go_wp2_with (first | (refine gl_ 11 Tryz.func20 #[.int .u64 a0, .int .i64 (l1.length : Int), .int .i64 1024] rfl ?_; (with_reducible refine (epicycleref11_Check.calls a0 (l1.length : Int) 1024 t213 _ A3.out).mono ?_); rintro e w' ⟨rfl, ⟨nd, rfl⟩⟩; refine ⟨_, rfl, ?_⟩))
  go_ret
  exact ⟨eq_, bel_⟩
noncomputable def epicyclelaw14_MixedIs.f (k : Nat) (a0_0 : Int) (a0_1 : Int) (a0_2 : Int) (l0_3 : List (S134)) (l1 : List Int) (a2 : Bool) : Option (Bool) := (epicyclelaw14_alive.f k).bind fun t220 => (if t220 = true then (if (l1.length : Int) > 1100 then (some true) else ((epicyclelaw14_made.f k a0_0 a0_1 a0_2 l0_3).bind fun bt221 => ((some (([] : List Int) : List Int)).bind fun y226 => (if y226.length + l1.length < 17592186044416 then ((some (y226 ++ l1 : List Int)).bind fun y229 => ((mixed_Run.f k bt221.1 y229 a2).bind fun bt232 => ((epicyclelaw14_same.f k y229 l1).bind fun t236 => (if t236 = true then (if bt221.2.1 = 0 then (if (bt221.1.length : Int) = 0 then (if (bt232.1.length : Int) = 0 then (some (bt232.2 == 2)) else (none)) else (none)) else ((epicycleref14_Fault.f k bt221.2.1 l1).bind fun t237 => (if t237 = 0 then (if (l1.length : Int) > 36 then (if bt232.2 = 0 then (some ((bt232.1.length : Int) == (l1.length : Int))) else (none)) else (if bt232.2 = 0 then ((epicycleref11_Run.f k bt221.2.1 bt221.2.2 l1 a2).bind fun t238 => ((epicyclelaw14_same.f k bt232.1 t238).bind fun t241 => (some t241))) else (none))) else (if (bt232.1.length : Int) = 0 then (some (bt232.2 == t237)) else (none))))) else (none))))) else (none))))) else (none))
set_option maxHeartbeats 8000000 in
set_option maxRecDepth 100000 in
theorem epicyclelaw14_MixedIs.calls (k : Nat) (a0_0 : Int) (a0_1 : Int) (a0_2 : Int) (A0_3 : Option Addr) (c0_3 : Nat) (l0_3 : List (S134)) (A1 : Option Addr) (c1 : Nat) (l1 : List Int) (a2 : Bool) (w : World) (hr0_3 : Kd.C k134 w A0_3 l0_3.length l0_3) (hc0_3 : l0_3.length ≤ c0_3) (hr1 : Kd.C (Kd.int .u64) w A1 l1.length l1) (hc1 : l1.length ≤ c1) (h : epicyclelaw14_MixedIs.f k a0_0 a0_1 a0_2 l0_3 l1 a2 = some true) :
  Calls Tryz.prog 10 #[.agg #[.int .i64 a0_0, .int .i64 a0_1, .int .u64 a0_2, .slice A0_3 l0_3.length c0_3], .slice A1 l1.length c1, .bool a2] w fun e w' => e = .returned (.bool true) ∧ Below w.heap.size w w' := by
 have hu25 := Tryz.underlying25
 have HR0_3 := Aside0.mk hr0_3
 have HC0_3 := Aside0.mk hc0_3
 clear hr0_3 hc0_3
 have HR1 := Aside0.mk hr1
 have HC1 := Aside0.mk hc1
 clear hr1 hc1
 have HB := Aside0.mk (Below.refl w.heap.size w)
 have H := h; unfold epicyclelaw14_MixedIs.f at H
 clear h
 replace H := Option.bind_eq_some_iff.mp H
 obtain ⟨t220, A40, H⟩ := H
 (try dsimp only at H)
 have A4 := Aside0.mk A40
 clear A40
 by_cases c5 : t220 = true
 ·subst c5
  have H1 := H; rw [if_pos rfl] at H1
  clear H
  have H := H1
  clear H1
  by_cases c6 : (l1.length : Int) > 1100
  ·rw [if_pos c6] at H
   have c6b0 := decide_eq_true c6
   have c6b1 : decide (1100 < l1.length) = true := decide_eq_true (by omega)
   clear c6
   clear H
   go_enter Tryz.func10, Tryz.ntmps10
   go_wp2_with (first | ((with_reducible refine gate_dst (N := 3) rfl ?_); (try (refine gate_guard (by rfl) ?_; dsimp only)); refine be_ 3 #[.int .i64 a0_0, .int .i64 a0_1, .int .u64 a0_2, .slice A0_3 l0_3.length c0_3] 25 ?_; intro gb219 hg w7 hbox hb; have n0_ := Aside0.mk (below_step bel_ hb); have n1_ := Aside0.mk (hbox); have n2_ := Aside0.mk ((by rw [hg]; exact (below_size bel_) : w.heap.size ≤ gb219)); have n3_ := Aside0.mk ((by rw [hg]; exact (below_size bel_) : w.heap.size ≤ gb219)); clear HB; have HB := n0_; have BK219 := n1_; have GW219 := n2_; have GE219 := n3_; clear n0_ n1_ n2_ n3_; clear hb hbox hg) | (refine gl_ 14 Tryz.func31 #[] rfl ?_; (with_reducible refine (epicyclelaw14_alive.calls k  true _ A4.out).mono ?_); rintro e w8 ⟨rfl, hb⟩; refine ⟨_, rfl, ?_⟩; have n0_ := Aside0.mk (blk_below (g := gb219) (o := .cells #[.int .i64 a0_0, .int .i64 a0_1, .int .u64 a0_2, .slice A0_3 l0_3.length c0_3] 25 (0, 0)) (blkx_ BK219.out) hb); have n1_ := Aside0.mk (below_step bel_ hb); clear BK219; clear HB; have BK219 := n0_; have HB := n1_; clear n0_ n1_))
   go_ret
   exact ⟨by first | rfl | (simp [errW_none, errW_some] <;> rfl) | (simp [*, errW_none, errW_some] <;> rfl), bel_⟩
  ·rw [if_neg c6] at H
   have c6b0 := decide_eq_false c6
   have c6b1 : decide (1100 < l1.length) = false := decide_eq_false (by omega)
   clear c6
   replace H := Option.bind_eq_some_iff.mp H
   obtain ⟨⟨t221, t224, t225⟩, A90, H⟩ := H
   (try dsimp only at H)
   have A9 := Aside0.mk A90
   clear A90
   obtain ⟨y226, hy226⟩ : ∃ y_ : List Int, y_ = (([] : List Int)) := ⟨_, rfl⟩
   replace H : (if y226.length + l1.length < 17592186044416 then ((some (y226 ++ l1 : List Int)).bind fun y229 => ((mixed_Run.f k t221 y229 a2).bind fun bt232 => ((epicyclelaw14_same.f k y229 l1).bind fun t236 => (if t236 = true then (if t224 = 0 then (if (t221.length : Int) = 0 then (if (bt232.1.length : Int) = 0 then (some (bt232.2 == 2)) else (none)) else (none)) else ((epicycleref14_Fault.f k t224 l1).bind fun t237 => (if t237 = 0 then (if (l1.length : Int) > 36 then (if bt232.2 = 0 then (some ((bt232.1.length : Int) == (l1.length : Int))) else (none)) else (if bt232.2 = 0 then ((epicycleref11_Run.f k t224 t225 l1 a2).bind fun t238 => ((epicyclelaw14_same.f k bt232.1 t238).bind fun t241 => (some t241))) else (none))) else (if (bt232.1.length : Int) = 0 then (some (bt232.2 == t237)) else (none))))) else (none))))) else (none)) = some true := by first | (rw [hy226]; with_reducible exact H) | (have H2_ := (Option.bind_some _ _).symm.trans H; rw [hy226]; with_reducible exact H2_) | (have H2_ := (Option.bind_some _ _).symm.trans H; with_reducible exact H2_) | with_reducible exact H | (rw [hy226]; exact H) | exact H
   have Ny226 := Aside0.mk hy226
   clear hy226
   by_cases c10 : y226.length + l1.length < 17592186044416
   ·rw [if_pos c10] at H
    have LMc10 := Aside0.mk c10
    clear c10
    obtain ⟨y229, hy229⟩ : ∃ y_ : List Int, y_ = (y226 ++ l1) := ⟨_, rfl⟩
    replace H : ((mixed_Run.f k t221 y229 a2).bind fun bt232 => ((epicyclelaw14_same.f k y229 l1).bind fun t236 => (if t236 = true then (if t224 = 0 then (if (t221.length : Int) = 0 then (if (bt232.1.length : Int) = 0 then (some (bt232.2 == 2)) else (none)) else (none)) else ((epicycleref14_Fault.f k t224 l1).bind fun t237 => (if t237 = 0 then (if (l1.length : Int) > 36 then (if bt232.2 = 0 then (some ((bt232.1.length : Int) == (l1.length : Int))) else (none)) else (if bt232.2 = 0 then ((epicycleref11_Run.f k t224 t225 l1 a2).bind fun t238 => ((epicyclelaw14_same.f k bt232.1 t238).bind fun t241 => (some t241))) else (none))) else (if (bt232.1.length : Int) = 0 then (some (bt232.2 == t237)) else (none))))) else (none)))) = some true := by first | (rw [hy229]; with_reducible exact H) | (have H2_ := (Option.bind_some _ _).symm.trans H; rw [hy229]; with_reducible exact H2_) | (have H2_ := (Option.bind_some _ _).symm.trans H; with_reducible exact H2_) | with_reducible exact H | (rw [hy229]; exact H) | exact H
    have Ny229 := Aside0.mk hy229
    clear hy229
    replace H := Option.bind_eq_some_iff.mp H
    obtain ⟨⟨t232, t233⟩, A110, H⟩ := H
    (try dsimp only at H)
    have A11 := Aside0.mk A110
    clear A110
    replace H := Option.bind_eq_some_iff.mp H
    obtain ⟨t236, A120, H⟩ := H
    (try dsimp only at H)
    have A12 := Aside0.mk A120
    clear A120
    by_cases c13 : t236 = true
    ·subst c13
     have H1 := H; rw [if_pos rfl] at H1
     clear H
     have H := H1
     clear H1
     have HS_ := Aside0.mk H
     clear H
     go_enter Tryz.func10, Tryz.ntmps10
     go_upto_region 10 with (first | ((with_reducible refine gate_dst (N := 3) rfl ?_); (try (refine gate_guard (by rfl) ?_; dsimp only)); refine be_ 3 #[.int .i64 a0_0, .int .i64 a0_1, .int .u64 a0_2, .slice A0_3 l0_3.length c0_3] 25 ?_; intro gb219 hg w32 hbox hb; have n0_ := Aside0.mk (below_step bel_ hb); have n1_ := Aside0.mk (hbox); have n2_ := Aside0.mk ((by rw [hg]; exact (below_size bel_) : w.heap.size ≤ gb219)); have n3_ := Aside0.mk ((by rw [hg]; exact (below_size bel_) : w.heap.size ≤ gb219)); clear HB; have HB := n0_; have BK219 := n1_; have GW219 := n2_; have GE219 := n3_; clear n0_ n1_ n2_ n3_; clear hb hbox hg) | (refine gl_ 14 Tryz.func31 #[] rfl ?_; (with_reducible refine (epicyclelaw14_alive.calls k  true _ A4.out).mono ?_); rintro e w33 ⟨rfl, hb⟩; refine ⟨_, rfl, ?_⟩; have n0_ := Aside0.mk (blk_below (g := gb219) (o := .cells #[.int .i64 a0_0, .int .i64 a0_1, .int .u64 a0_2, .slice A0_3 l0_3.length c0_3] 25 (0, 0)) (blkx_ BK219.out) hb); have n1_ := Aside0.mk (below_step bel_ hb); clear BK219; clear HB; have BK219 := n0_; have HB := n1_; clear n0_ n1_; have hcz34_0 := bc_ BK219.out 0 rfl; have hcz34_1 := bc_ BK219.out 1 rfl; have hcz34_2 := bc_ BK219.out 2 rfl; have hcz34_3 := bc_ BK219.out 3 rfl; have hfz34_0 := blk_frozen BK219.out 0; have hfz34_1 := blk_frozen BK219.out 1; have hfz34_2 := blk_frozen BK219.out 2; have hfz34_3 := blk_frozen BK219.out 3) | (refine gl_ 21 Tryz.func32 #[.agg #[.int .i64 a0_0, .int .i64 a0_1, .int .u64 a0_2, .slice A0_3 l0_3.length c0_3]] rfl ?_; (with_reducible refine (epicyclelaw14_made.calls k a0_0 a0_1 a0_2 _ _ l0_3 t221 t224 t225 _ ?side1 ?side2 A9.out).mono ?_); (case side1 => exact cal_ (Kd.C_below HR0_3.out HB.out)); (case side2 => exact HC0_3.out); rintro e w35 ⟨v222, rfl, ho0, hb⟩; refine ⟨_, rfl, ?_⟩; have n0_ := Aside0.mk (Kd.R_lower ho0 (below_size bel_)); have n1_ := Aside0.mk (blk_below (g := gb219) (o := .cells #[.int .i64 a0_0, .int .i64 a0_1, .int .u64 a0_2, .slice A0_3 l0_3.length c0_3] 25 (0, 0)) (blkx_ BK219.out) hb); have n2_ := Aside0.mk (below_step bel_ hb); clear BK219; clear HB; have HO223 := n0_; have BK219 := n1_; have HB := n2_; clear n0_ n1_ n2_; (try clear ho0)) | ((with_reducible refine gate_dst (N := 25) rfl ?_); (try (refine gate_guard (by rfl) ?_; dsimp only)); refine Kd.R_lit (Kd.int .u64) _ 22 ?hg (N := 25) ?hd (xs := ([] : List Int)) (inner := []) (ok := fun _ => True) (okp := fun _ => True) ?hr ?hp (fun _ hk => hk) trivial (Below.refl _ _) (Nat.le_refl _) (by simp) ?_; (case hd => rfl); (case hg => rfl); (case hr => first | (go_simp; done) | (go_simp; rfl)); (case hp => exact (Reps.none _ _)); intro v227 w36 ho37 hb hg_ hnew_; clear hg_ hnew_; (first | rw [← Ny226.out] at ho37 | (simp only [Int.reduceToNat] at ho37; rw [← Ny226.out] at ho37)); have n0_ := Aside0.mk (Kd.R_below (rel_ HO223.out) hb); have n1_ := Aside0.mk (Kd.R_lower ho37 (below_size bel_)); have n2_ := Aside0.mk (blk_below (g := gb219) (o := .cells #[.int .i64 a0_0, .int .i64 a0_1, .int .u64 a0_2, .slice A0_3 l0_3.length c0_3] 25 (0, 0)) (blkx_ BK219.out) hb); have n3_ := Aside0.mk (below_step bel_ hb); clear HO223; clear BK219; clear HB; have HO223 := n0_; have HO228 := n1_; have BK219 := n2_; have HB := n3_; clear n0_ n1_ n2_ n3_; clear hb ho37) | ((with_reducible refine gate_builtin (b := .append) (xs := #[.tmp 25, .tmp 26]) rfl ?_); (try (refine gate_guard (by rfl) ?_; dsimp only)); at_builtin; refine Kd.R_append_rows (Kd.int .u64) (w0 := w) w.heap.size rfl (.tmp 25) (.tmp 26) 26 22 (.int .u64 0) 8 rfl Tryz.underlying26 info22 rfl (by decide) (by omega) v227 y226 l1 _ _ _ (fun _ => True) (fun _ => False) rfl rfl ?aO ?aR (fun _ _ h => h) (fun _ h => h.elim) ?aF ?aB ?aS ?aL ?_; (case aR => repeat (first | exact (Kd.C_below HR1.out HB.out) | (with_reducible refine Kd.C_alloc ?_ _) | (with_reducible refine Kd.C_drewN ?_ _) | (with_reducible refine Kd.C_drew ?_))); (case aB => exact bel_); (case aF => exact (fun _ _ => trivial)); (case aO => exact (rel_ HO228.out)); (case aS => exact (below_size bel_)); (case aL => have := LMc10.out; omega); intro v230 w38 ho hb hg hat; rw [← Ny229.out] at ho; have n0_ := Aside0.mk (blk_grown (g := gb219) (o := .cells #[.int .i64 a0_0, .int .i64 a0_1, .int .u64 a0_2, .slice A0_3 l0_3.length c0_3] 25 (0, 0)) (blkx_ BK219.out) hg (Kd.R_ne HO228.out BK219.out (by decide))); have n1_ := Aside0.mk (Kd.R_over' (rel_ HO223.out) (Kd.R_typed (rel_ HO228.out)) (by decide) hg); have n2_ := Aside0.mk (hb); have n3_ := Aside0.mk (ho); clear BK219; clear HO223; clear HB; clear HO228; have BK219 := n0_; have HO223 := n1_; have HB := n2_; have HO231 := n3_; clear n0_ n1_ n2_ n3_; clear ho hb hg hat; obtain ⟨Ao39, co39, eo39⟩ := Kd.R_slice HO223.out; subst eo39; obtain ⟨Ao40, co40, eo40⟩ := Kd.R_slice HO231.out; subst eo40) | ((with_reducible refine gate_callee (f := 33) rfl ?_); refine goesL_ (some 32) rfl rfl Tryz.func33 (by kernel_rfl) rfl #[toPtr (.slice Ao39 t221.length co39), .slice Ao40 y229.length co40, .bool a2] rfl (by (try simp only [List.map_toArray, List.map_cons, List.map_nil]); first | done | (rw [hT_HO223] <;> rfl) | rfl | (simp only [List.length_drop, List.length_take]; rfl)) ?_; (try rw [← hT_HO223]); (with_reducible refine (mixed_Run.calls k _ _ t221 _ _ y229 a2 t232 t233 _ ?side1 ?side2 ?side3 ?side4 A11.out).mono ?_); (case side1 => repeat (first | exact (Kd.R_reads' HO223.out).2.2 | (with_reducible refine Kd.C_alloc ?_ _) | (with_reducible refine Kd.C_drewN ?_ _) | (with_reducible refine Kd.C_drew ?_))); (case side2 => exact (Kd.R_reads' HO223.out).2.1); (case side3 => repeat (first | exact (Kd.R_reads' HO231.out).2.2 | (with_reducible refine Kd.C_alloc ?_ _) | (with_reducible refine Kd.C_drewN ?_ _) | (with_reducible refine Kd.C_drew ?_))); (case side4 => exact (Kd.R_reads' HO231.out).2.1); rintro e w41 ⟨v234, rfl, ho0, hb⟩; refine ⟨_, rfl, ?_⟩; have n0_ := Aside0.mk (Kd.R_below (rel_ HO223.out) hb); have n1_ := Aside0.mk (Kd.R_elder' (rel_ HO231.out) (Kd.R_base ho0) hb); have n2_ := Aside0.mk (Kd.R_lower (Kd.R_new' ho0 (Kd.R_lt (rel_ HO231.out))) (below_size bel_)); have n3_ := Aside0.mk (blk_below (g := gb219) (o := .cells #[.int .i64 a0_0, .int .i64 a0_1, .int .u64 a0_2, .slice A0_3 l0_3.length c0_3] 25 (0, 0)) (blkx_ BK219.out) hb); have n4_ := Aside0.mk (below_step bel_ hb); clear HO223; clear HO231; clear BK219; clear HB; have HO223 := n0_; have HO231 := n1_; have HO235 := n2_; have BK219 := n3_; have HB := n4_; clear n0_ n1_ n2_ n3_ n4_; (try clear ho0)) | (refine gl_ 37 Tryz.func34 #[.slice Ao40 y229.length co40, .slice A1 l1.length c1] rfl ?_; (with_reducible refine (epicyclelaw14_same.calls k _ _ y229 _ _ l1 true _ ?side1 ?side2 ?side3 ?side4 A12.out).mono ?_); (case side1 => repeat (first | exact (Kd.R_reads' HO231.out).2.2 | (with_reducible refine Kd.C_alloc ?_ _) | (with_reducible refine Kd.C_drewN ?_ _) | (with_reducible refine Kd.C_drew ?_))); (case side2 => exact (Kd.R_reads' HO231.out).2.1); (case side3 => exact cal_ (Kd.C_below HR1.out HB.out)); (case side4 => exact HC1.out); rintro e w' ⟨rfl, ⟨nd, rfl⟩⟩; refine ⟨_, rfl, ?_⟩))
     have H := HS_.out
     clear HS_
     by_cases c14 : t224 = 0
     ·rw [if_pos c14] at H
      have c14b0 := beq_iff_eq.mpr c14
      have c14b1 := bne_eq_false_iff_eq.mpr c14
      clear c14
      by_cases c15 : (t221.length : Int) = 0
      ·rw [if_pos c15] at H
       have c15b0 := beq_iff_eq.mpr c15
       have c15b1 := bne_eq_false_iff_eq.mpr c15
       have hTl_t221 := Aside0.mk (show t221.length = 0 by omega)
       clear c15
       by_cases c16 : (t232.length : Int) = 0
       ·rw [if_pos c16] at H
        have c16b0 := beq_iff_eq.mpr c16
        have c16b1 := bne_eq_false_iff_eq.mpr c16
        clear c16
        have hR_ := Option.some.inj H
        have hT_HO223 := pf_none_own HO223.out hTl_t221.out
        obtain ⟨Ao27, co27, eo27⟩ := Kd.R_slice HO235.out
        subst eo27
        go_wp2
        go_ret
        exact ⟨by first | rfl | (simp [errW_none, errW_some] <;> rfl) | (simp [*, errW_none, errW_some] <;> rfl), bel_⟩
       ·rw [if_neg c16] at H
        exact absurd H (by simp)
      ·rw [if_neg c15] at H
       exact absurd H (by simp)
     ·rw [if_neg c14] at H
      have c14b0 := beq_eq_false_iff_ne.mpr c14
      have c14b1 := bne_iff_ne.mpr c14
      replace H := Option.bind_eq_some_iff.mp H
      obtain ⟨t237, A280, H⟩ := H
      (try dsimp only at H)
      have A28 := Aside0.mk A280
      clear A280
      by_cases c29 : t237 = 0
      ·rw [if_pos c29] at H
       have c29b0 := beq_iff_eq.mpr c29
       have c29b1 := bne_eq_false_iff_eq.mpr c29
       clear c29
       by_cases c30 : (l1.length : Int) > 36
       ·rw [if_pos c30] at H
        have c30b0 := decide_eq_true c30
        have c30b1 : decide (36 < l1.length) = true := decide_eq_true (by omega)
        clear c30
        by_cases c31 : t233 = 0
        ·rw [if_pos c31] at H
         have c31b0 := beq_iff_eq.mpr c31
         have c31b1 := bne_eq_false_iff_eq.mpr c31
         clear c31
         have hR_ := Option.some.inj H
         go_wp2_with (first | (refine gl_ 54 Tryz.func35 #[.int .u64 t224, .slice A1 l1.length c1] rfl ?_; (with_reducible refine (epicycleref14_Fault.calls k t224 _ _ l1 t237 _ ?side1 ?side2 A28.out).mono ?_); (case side1 => exact cal_ (Kd.C_below HR1.out bel_)); (case side2 => exact HC1.out); rintro e w42 ⟨rfl, hb⟩; refine ⟨_, rfl, ?_⟩; have n0_ := Aside0.mk (Kd.R_below (rel_ HO223.out) hb); have n1_ := Aside0.mk (Kd.R_below (rel_ HO231.out) hb); have n2_ := Aside0.mk (Kd.R_below (rel_ HO235.out) hb); have n3_ := Aside0.mk (blk_below (g := gb219) (o := .cells #[.int .i64 a0_0, .int .i64 a0_1, .int .u64 a0_2, .slice A0_3 l0_3.length c0_3] 25 (0, 0)) (blkx_ BK219.out) hb); have n4_ := Aside0.mk (below_step bel_ hb); clear HO223; clear HO231; clear HO235; clear BK219; clear HB; have HO223 := n0_; have HO231 := n1_; have HO235 := n2_; have BK219 := n3_; have HB := n4_; clear n0_ n1_ n2_ n3_ n4_; obtain ⟨Ao43, co43, eo43⟩ := Kd.R_slice HO235.out; subst eo43))
         go_ret
         exact ⟨by first | rfl | (simp [errW_none, errW_some] <;> rfl) | (simp [*, errW_none, errW_some] <;> rfl), bel_⟩
        ·rw [if_neg c31] at H
         exact absurd H (by simp)
       ·rw [if_neg c30] at H
        have c30b0 := decide_eq_false c30
        have c30b1 : decide (36 < l1.length) = false := decide_eq_false (by omega)
        clear c30
        by_cases c44 : t233 = 0
        ·rw [if_pos c44] at H
         have c44b0 := beq_iff_eq.mpr c44
         have c44b1 := bne_eq_false_iff_eq.mpr c44
         clear c44
         replace H := Option.bind_eq_some_iff.mp H
         obtain ⟨t238, A450, H⟩ := H
         (try dsimp only at H)
         have A45 := Aside0.mk A450
         clear A450
         replace H := Option.bind_eq_some_iff.mp H
         obtain ⟨t241, A460, H⟩ := H
         (try dsimp only at H)
         have A46 := Aside0.mk A460
         clear A460
         have hR_ := Option.some.inj H
         go_wp2_with (first | (refine gl_ 54 Tryz.func35 #[.int .u64 t224, .slice A1 l1.length c1] rfl ?_; (with_reducible refine (epicycleref14_Fault.calls k t224 _ _ l1 t237 _ ?side1 ?side2 A28.out).mono ?_); (case side1 => exact cal_ (Kd.C_below HR1.out bel_)); (case side2 => exact HC1.out); rintro e w57 ⟨rfl, hb⟩; refine ⟨_, rfl, ?_⟩; have n0_ := Aside0.mk (Kd.R_below (rel_ HO223.out) hb); have n1_ := Aside0.mk (Kd.R_below (rel_ HO231.out) hb); have n2_ := Aside0.mk (Kd.R_below (rel_ HO235.out) hb); have n3_ := Aside0.mk (blk_below (g := gb219) (o := .cells #[.int .i64 a0_0, .int .i64 a0_1, .int .u64 a0_2, .slice A0_3 l0_3.length c0_3] 25 (0, 0)) (blkx_ BK219.out) hb); have n4_ := Aside0.mk (below_step bel_ hb); clear HO223; clear HO231; clear HO235; clear BK219; clear HB; have HO223 := n0_; have HO231 := n1_; have HO235 := n2_; have BK219 := n3_; have HB := n4_; clear n0_ n1_ n2_ n3_ n4_) | (go_at_call 22; (with_reducible refine (epicycleref11_Run.calls k t224 t225 _ _ l1 a2 t238 _ ?side1 ?side2 A45.out).mono ?_); (case side1 => exact cal_ (Kd.C_below HR1.out HB.out)); (case side2 => exact HC1.out); rintro e w58 ⟨v239, rfl, ho0, hb⟩; have n0_ := Aside0.mk (Kd.R_below (rel_ HO223.out) hb); have n1_ := Aside0.mk (Kd.R_elder' (rel_ HO231.out) (Kd.R_base ho0) hb); have n2_ := Aside0.mk (Kd.R_elder' (rel_ HO235.out) (Kd.R_base ho0) hb); have n3_ := Aside0.mk (Kd.R_lower (Kd.R_new' (Kd.R_new' ho0 (Kd.R_lt (rel_ HO231.out))) (Kd.R_lt (rel_ HO235.out))) (below_size bel_)); have n4_ := Aside0.mk (blk_below (g := gb219) (o := .cells #[.int .i64 a0_0, .int .i64 a0_1, .int .u64 a0_2, .slice A0_3 l0_3.length c0_3] 25 (0, 0)) (blkx_ BK219.out) hb); have n5_ := Aside0.mk (below_step bel_ hb); clear HO223; clear HO231; clear HO235; clear BK219; clear HB; have HO223 := n0_; have HO231 := n1_; have HO235 := n2_; have HO240 := n3_; have BK219 := n4_; have HB := n5_; clear n0_ n1_ n2_ n3_ n4_ n5_; (try clear ho0); obtain ⟨Ao59, co59, eo59⟩ := Kd.R_slice HO235.out; subst eo59; obtain ⟨Ao60, co60, eo60⟩ := Kd.R_slice HO240.out; subst eo60) | (go_at_call 34; (with_reducible refine (epicyclelaw14_same.calls k _ _ t232 _ _ t238 t241 _ ?side1 ?side2 ?side3 ?side4 A46.out).mono ?_); (case side1 => repeat (first | exact (Kd.R_reads' HO235.out).2.2 | (with_reducible refine Kd.C_alloc ?_ _) | (with_reducible refine Kd.C_drewN ?_ _) | (with_reducible refine Kd.C_drew ?_))); (case side2 => exact (Kd.R_reads' HO235.out).2.1); (case side3 => repeat (first | exact (Kd.R_reads' HO240.out).2.2 | (with_reducible refine Kd.C_alloc ?_ _) | (with_reducible refine Kd.C_drewN ?_ _) | (with_reducible refine Kd.C_drew ?_))); (case side4 => exact (Kd.R_reads' HO240.out).2.1); rintro e w' ⟨rfl, ⟨nd, rfl⟩⟩))
         go_ret
         exact ⟨by first | rfl | (simp [errW_none, errW_some] <;> rfl) | (simp [*, errW_none, errW_some] <;> rfl), bel_⟩
        ·rw [if_neg c44] at H
         exact absurd H (by simp)
      ·rw [if_neg c29] at H
       have c29b0 := beq_eq_false_iff_ne.mpr c29
       have c29b1 := bne_iff_ne.mpr c29
       by_cases c61 : (t232.length : Int) = 0
       ·rw [if_pos c61] at H
        have c61b0 := beq_iff_eq.mpr c61
        have c61b1 := bne_eq_false_iff_eq.mpr c61
        clear c61
        have hR_ := Option.some.inj H
        go_wp2_with (first | (refine gl_ 54 Tryz.func35 #[.int .u64 t224, .slice A1 l1.length c1] rfl ?_; (with_reducible refine (epicycleref14_Fault.calls k t224 _ _ l1 t237 _ ?side1 ?side2 A28.out).mono ?_); (case side1 => exact cal_ (Kd.C_below HR1.out bel_)); (case side2 => exact HC1.out); rintro e w72 ⟨rfl, hb⟩; refine ⟨_, rfl, ?_⟩; have n0_ := Aside0.mk (Kd.R_below (rel_ HO223.out) hb); have n1_ := Aside0.mk (Kd.R_below (rel_ HO231.out) hb); have n2_ := Aside0.mk (Kd.R_below (rel_ HO235.out) hb); have n3_ := Aside0.mk (blk_below (g := gb219) (o := .cells #[.int .i64 a0_0, .int .i64 a0_1, .int .u64 a0_2, .slice A0_3 l0_3.length c0_3] 25 (0, 0)) (blkx_ BK219.out) hb); have n4_ := Aside0.mk (below_step bel_ hb); clear HO223; clear HO231; clear HO235; clear BK219; clear HB; have HO223 := n0_; have HO231 := n1_; have HO235 := n2_; have BK219 := n3_; have HB := n4_; clear n0_ n1_ n2_ n3_ n4_; obtain ⟨Ao73, co73, eo73⟩ := Kd.R_slice HO235.out; subst eo73))
        go_ret
        exact ⟨by first | rfl | (simp [errW_none, errW_some] <;> rfl) | (simp [*, errW_none, errW_some] <;> rfl), bel_⟩
       ·rw [if_neg c61] at H
        exact absurd H (by simp)
    ·replace c13 := Bool.eq_false_iff.mpr c13
     subst c13
     have H1 := H; rw [if_neg (show ¬ (false = true) by decide)] at H1
     clear H
     have H := H1
     clear H1
     exact absurd H (by simp)
   ·rw [if_neg c10] at H
    exact absurd H (by simp)
 ·replace c5 := Bool.eq_false_iff.mpr c5
  subst c5
  have H1 := H; rw [if_neg (show ¬ (false = true) by decide)] at H1
  clear H
  have H := H1
  clear H1
  exact absurd H (by simp)
end Go.Proofs.YtndkmnjbjlfeaaaGreat.XM
end
section
namespace Go.Proofs.YtndkmnjbjlfeaaaGreat.F06.XM
open Go Go.RowKit Go.Proofs.YtndkmnjbjlfeaaaGreat.XS Go.Proofs.YtndkmnjbjlfeaaaGreat.XT Go.Proofs.YtndkmnjbjlfeaaaGreat.XR Go.Proofs.YtndkmnjbjlfeaaaGreatW.PrintWords Go.Proofs.YtndkmnjbjlfeaaaGreatW.PrintLast Go.Proofs.YtndkmnjbjlfeaaaGreatW.PrintMore Go.Proofs.YtndkmnjbjlfeaaaGreat.Given Go.Proofs.YtndkmnjbjlfeaaaGreat.Given04 Go.Proofs.YtndkmnjbjlfeaaaGreat.M Go.Proofs.YtndkmnjbjlfeaaaGreat.Mont Go.Proofs.YtndkmnjbjlfeaaaGreat.XM
theorem rows_l1 {x3 : List S94} {L : List S134} {len i P G : Int} {F : List S146} {R : List S94} (hF : F.length < 8796093022208) (h3 : x3.length < 3518437208883)
    (E : Ev (fun k => epicyclelaw14_rows.l0 k (x3 ++ [⟨P, G, F.map cF⟩]) L len (wrap64 (i + 1))) R) (l : List S146) :
    ∀ j : Nat, F.drop j = l → j ≤ F.length → Ev (fun k => epicyclelaw14_rows.l1 k x3 ((F.take j).map cF) L len i F (F.length : Int) j P G F) R := by
  induction l with
  | nil =>
    intro j hd hj
    have : F.length ≤ j := by have := congrArg List.length hd; simp at this; omega
    have q : ¬ (j : Int) < (F.length : Int) := by omega
    rw [List.take_of_length_le this]
    refine Ev.step (fun k => ?_) E
    simp only [epicyclelaw14_rows.l1]
    rw [if_neg q, if_pos h3]
  | cons x l ih =>
    intro j hd hj
    obtain ⟨hx, hlt, hd'⟩ := rd60_drop hd
    have q : (j : Int) < (F.length : Int) := by omega
    have q0 : 0 ≤ (j : Int) := by omega
    have w : wrap64 ((j : Int) + 1) = ((j + 1 : Nat) : Int) := by rw [w64_id _ (by omega) (by omega)]; omega
    have ql : ((F.take j).map cF).length < 8796093022208 := by simp; omega
    have IH := ih (j + 1) hd' (by omega)
    have e : (F.take (j + 1)).map cF = (F.take j).map cF ++ [⟨x.f0, x.f1⟩] := by
      have hg : F[j] = x := by
        rw [List.drop_eq_getElem_cons hlt] at hd
        injection hd
      rw [List.take_succ_eq_append_getElem hlt, hg, List.map_append]
      rfl
    rw [e] at IH
    refine Ev.step (fun k => ?_) IH
    simp only [epicyclelaw14_rows.l1]
    rw [if_pos q, if_pos q0, if_pos q, if_pos ql, hx, w]
theorem rows_l0 {L : List S134} (hL : okLen L) (l : List S134) : ∀ i : Nat, L.drop i = l → i ≤ L.length → Ev (fun k => epicyclelaw14_rows.l0 k ((L.take i).map cE) L (L.length : Int) i) (L.map cE) := by
  have h1 := hL.1
  induction l with
  | nil =>
    intro i hd hi
    have : L.length ≤ i := by have := congrArg List.length hd; simp at this; omega
    have q : ¬ (i : Int) < (L.length : Int) := by omega
    rw [List.take_of_length_le this]
    refine Ev.step (fun k => ?_) (Ev.now _)
    simp only [epicyclelaw14_rows.l0]
    rw [if_neg q]
  | cons x l ih =>
    intro i hd hi
    obtain ⟨hx, hlt, hd'⟩ := rd46_drop hd
    have hxm : x ∈ L := List.mem_of_mem_drop (show x ∈ L.drop i by rw [hd]; exact List.mem_cons_self)
    have q : (i : Int) < (L.length : Int) := by omega
    have q0 : 0 ≤ (i : Int) := by omega
    have w : wrap64 ((i : Int) + 1) = ((i + 1 : Nat) : Int) := by rw [w64_id _ (by omega) (by omega)]; omega
    have ql : ((L.take i).map cE).length < 3518437208883 := by simp; omega
    have IH := ih (i + 1) hd' (by omega)
    have e : (L.take (i + 1)).map cE = (L.take i).map cE ++ [⟨x.f0, x.f1, x.f2.map cF⟩] := by
      have hg : L[i] = x := by
        rw [List.drop_eq_getElem_cons hlt] at hd
        injection hd
      rw [List.take_succ_eq_append_getElem hlt, hg, List.map_append]
      rfl
    rw [e, ← w] at IH
    have L1 := rows_l1 (L := L) (len := (L.length : Int)) (i := (i : Int)) (hL.2 x hxm) ql IH x.f2 0 rfl (Nat.zero_le _)
    refine Ev.step (fun k => ?_) L1
    simp only [epicyclelaw14_rows.l0]
    rw [if_pos q, if_pos q0, if_pos q, hx]
    rfl
theorem rows_ev {L : List S134} (hL : okLen L) : Ev (fun k => epicyclelaw14_rows.f k L) (L.map cE) := by
  refine Ev.congr (fun k => ?_) (rows_l0 hL L 0 rfl (Nat.zero_le _))
  unfold epicyclelaw14_rows.f
  rfl
end Go.Proofs.YtndkmnjbjlfeaaaGreat.F06.XM
end
section
namespace Go.Proofs.YtndkmnjbjlfeaaaGreat.F06.XM
open Go Go.RowKit Go.Proofs.YtndkmnjbjlfeaaaGreatW.PrintWords Go.Proofs.YtndkmnjbjlfeaaaGreatW.PrintLast Go.Proofs.YtndkmnjbjlfeaaaGreatW.PrintMore Go.Proofs.YtndkmnjbjlfeaaaGreat.Given Go.Proofs.YtndkmnjbjlfeaaaGreat.M Go.Proofs.YtndkmnjbjlfeaaaGreat.Mont Go.Proofs.YtndkmnjbjlfeaaaGreat.XS Go.Proofs.YtndkmnjbjlfeaaaGreat.XT Go.Proofs.YtndkmnjbjlfeaaaGreat.XR Go.Proofs.YtndkmnjbjlfeaaaGreat.Num Go.Proofs.YtndkmnjbjlfeaaaGreat.XK Go.Proofs.YtndkmnjbjlfeaaaGreat.XM
theorem made_ev {L : List RE} (hL : okRow L) (kind K p : Int) : Ev (fun k => epicyclelaw14_made.f k kind K p L) ([], 0, 0) ∨ ∃ F, Ev (fun k => epicyclelaw14_made.f k kind K p L) ([F], F.p, F.g) ∧ GoodFld F := by
  by_cases h0 : kind = 0
  · subst h0
    by_cases hp : OddP p
    · obtain ⟨F, E, G, e, hg⟩ := small_odd hp
      refine .inr ⟨F, ?_, hg⟩
      rw [e]
      exact Ev.congr (fun k => rfl) (Ev.bind ((of_small (L := L) (K := K)).1 hp _ G) (evP rfl (Ev.bind E (Ev.now _))))
    · exact .inl (Ev.congr (fun k => rfl) (Ev.bind ((of_small (L := L) (K := K)).2 hp) (evP rfl (Ev.bind (small_not hp) (Ev.now _)))))
  by_cases h1 : kind = 1
  · subst h1
    by_cases hK : 0 ≤ K ∧ K ≤ 5
    · obtain ⟨F, E, e, hg⟩ := known_ev hK.1 hK.2
      refine .inr ⟨F, ?_, hg⟩
      have O := (of_known (L := L) (p := p)).1 hK
      rw [e] at O
      exact Ev.congr (fun k => rfl) (Ev.bind O (evN h0 (evP rfl (Ev.bind E (Ev.now _)))))
    · exact .inl (Ev.congr (fun k => rfl) (Ev.bind ((of_known (L := L) (p := p)).2 hK) (evN h0 (evP rfl (Ev.bind (known_not hK) (Ev.now _))))))
  have O := ofNew_ev hL (K := K) (p := p) h0 h1
  have R := rows_ev hL.1
  have E := new_ev (R := L.map cE) (by rw [map_tri]; exact hL.2) p
  rcases new_of hL p with ⟨e, _, hn, e', _, ho, _⟩ | ⟨F, hn, ho, hg, hl⟩
  · rw [hn] at E
    rw [ho] at O
    refine .inl (Ev.congr (fun k => rfl) (Ev.bind O (evN h0 (evN h1 ?_))))
    by_cases hl : (L.length : Int) ≤ 40
    · exact evP hl (Ev.bind R (Ev.bind E (Ev.now _)))
    · exact evN hl (Ev.now _)
  · rw [hn] at E
    rw [ho] at O
    exact .inr ⟨F, Ev.congr (fun k => rfl) (Ev.bind O (evN h0 (evN h1 (evP hl (Ev.bind R (Ev.bind E (Ev.now _))))))), hg⟩
end Go.Proofs.YtndkmnjbjlfeaaaGreat.F06.XM
end
section
namespace Go.Proofs.YtndkmnjbjlfeaaaGreat.F06.XM
open Go Go.RowKit Go.Proofs.YtndkmnjbjlfeaaaGreatW.PrintWords Go.Proofs.YtndkmnjbjlfeaaaGreatW.PrintLast Go.Proofs.YtndkmnjbjlfeaaaGreatW.PrintMore Go.Proofs.YtndkmnjbjlfeaaaGreat.Given Go.Proofs.YtndkmnjbjlfeaaaGreat.M Go.Proofs.YtndkmnjbjlfeaaaGreat.Mont Go.Proofs.YtndkmnjbjlfeaaaGreat.XS Go.Proofs.YtndkmnjbjlfeaaaGreat.XT Go.Proofs.YtndkmnjbjlfeaaaGreat.XR Go.Proofs.YtndkmnjbjlfeaaaGreat.Num Go.Proofs.YtndkmnjbjlfeaaaGreat.XK Go.Proofs.YtndkmnjbjlfeaaaGreat.T10 Go.Proofs.YtndkmnjbjlfeaaaGreat.D11 Go.Proofs.YtndkmnjbjlfeaaaGreat.XW Go.Proofs.YtndkmnjbjlfeaaaGreat.XM
theorem same_l0 {l : List Int} (hn : l.length ≤ 1000000) (d : Nat) : ∀ i : Nat, i + d = l.length → Ev (fun k => epicyclelaw14_same.l0 k l l (l.length : Int) (i : Int)) true := by
  induction d with
  | zero =>
    intro i hi
    exact stepE ⟨_, fun k => by simp only [epicyclelaw14_same.l0]; rw [if_neg (by omega)], Ev.now _⟩
  | succ d ih =>
    intro i hi
    have p1 : (i : Int) < (l.length : Int) := by omega
    have p2 : (0 : Int) ≤ (i : Int) := Int.natCast_nonneg _
    exact stepE ⟨_, fun k => by simp only [epicyclelaw14_same.l0]; rw [if_pos p1, if_pos p2, if_pos p1, if_pos p1, if_pos trivial, wrap_succ (by omega)], ih (i + 1) (by omega)⟩
theorem same_ev {l : List Int} (hn : l.length ≤ 1000000) : Ev (fun k => epicyclelaw14_same.f k l l) true := by
  have h := same_l0 hn l.length 0 (by omega)
  exact Ev.congr (fun k => by unfold epicyclelaw14_same.f; rw [if_pos rfl]; rfl) h
end Go.Proofs.YtndkmnjbjlfeaaaGreat.F06.XM
end
section
namespace Go.Proofs.YtndkmnjbjlfeaaaGreat.D11
open Go Go.RowKit Go.Proofs.YtndkmnjbjlfeaaaGreatW.PrintWords Go.Proofs.YtndkmnjbjlfeaaaGreat.M Go.Proofs.YtndkmnjbjlfeaaaGreat.Mont Go.Proofs.YtndkmnjbjlfeaaaGreat.Num Go.Proofs.YtndkmnjbjlfeaaaGreat.F06 Go.Proofs.YtndkmnjbjlfeaaaGreat.T10
theorem sumN_blocks (f : Nat → Int) (r m : Nat) : sumN f (r * m) = sumN (fun t => sumN (fun q => f (t * r + q)) r) m := by
  induction m with
  | zero => rfl
  | succ m ih =>
    rw [Nat.mul_succ, sumN_split, ih, sumN_succ]
    exact congrArg (_ + ·) (sumN_congr fun q _ => by rw [Nat.mul_comm])
theorem sumN_cols (f : Nat → Int) (r m : Nat) : sumN f (r * m) = sumN (fun q => sumN (fun t => f (t * r + q)) m) r := by
  rw [sumN_blocks, sumN_comm]
theorem dft_stage (w : Int) (f : Nat → Int) (r m i : Nat) : dftA w f (r * m) i = sumN (fun q => w ^ (q * i) * dftA (w ^ r) (fun t => f (t * r + q)) m i) r := by
  unfold dftA
  rw [sumN_cols]
  refine sumN_congr fun q _ => ?_
  rw [← sumN_mul]
  refine sumN_congr fun t _ => ?_
  rw [← Int.pow_mul, ← Int.mul_assoc, ← Int.pow_add]
  congr 2
  rw [Nat.mul_add, Nat.mul_comm q i, ← Nat.mul_assoc, Nat.mul_comm i t, Nat.mul_comm r, Nat.mul_assoc t i r, Nat.mul_comm i r, ← Nat.mul_assoc, Nat.add_comm, Nat.mul_assoc, Nat.mul_comm r i, ← Nat.mul_assoc]
theorem pow_one_mod {p w : Int} {n : Nat} (hp : (1 : Int) % p = 1) (h : w ^ n % p = 1) (a : Nat) : w ^ a % p = w ^ (a % n) % p := by
  have h1 : w ^ (n * (a / n)) % p = 1 := by
    rw [Int.pow_mul, ← emod_pow, h, Int.one_pow, hp]
  have e : w ^ a = w ^ (n * (a / n)) * w ^ (a % n) := by rw [← Int.pow_add, Nat.div_add_mod]
  rw [e, ← emod_mul_l, h1, Int.one_mul]
theorem dft_round {p w : Int} {n : Nat} (hp : (1 : Int) % p = 1) (h : w ^ n % p = 1) (f : Nat → Int) (i : Nat) : dftA w f n i % p = dftA w f n (i % n) % p := by
  refine sumN_mod fun j _ => mul_cong ?_ rfl
  rw [pow_one_mod hp h (i * j), pow_one_mod hp h (i % n * j)]
  congr 2
  rw [Nat.mul_mod i j n, Nat.mul_mod (i % n) j n, Nat.mod_mod]
def prodN : List Nat → Nat
  | [] => 1
  | r :: rs => r * prodN rs
def mixA : List Nat → Int → (Nat → Int) → Nat → Int
  | [], _, f, _ => f 0
  | r :: rs, w, f, i => sumN (fun q => w ^ (q * i) * mixA rs (w ^ r) (fun t => f (t * r + q)) (i % prodN rs)) r
theorem mix_dft {p : Int} (hp : (1 : Int) % p = 1) : ∀ (rs : List Nat) (w : Int) (f : Nat → Int) (i : Nat), w ^ prodN rs % p = 1 → mixA rs w f i % p = dftA w f (prodN rs) i % p
  | [], w, f, i, _ => by
    have e : dftA w f (prodN []) i = f 0 := by
      show 0 + w ^ (i * 0) * f 0 = f 0
      rw [Nat.mul_zero, Int.pow_zero, Int.one_mul, Int.zero_add]
    rw [e]
    rfl
  | r :: rs, w, f, i, h => by
    have h' : (w ^ r) ^ prodN rs % p = 1 := by rw [← Int.pow_mul]; exact h
    have e : dftA w f (prodN (r :: rs)) i = sumN (fun q => w ^ (q * i) * dftA (w ^ r) (fun t => f (t * r + q)) (prodN rs) i) r := dft_stage w f r (prodN rs) i
    rw [e]
    show sumN (fun q => w ^ (q * i) * mixA rs (w ^ r) (fun t => f (t * r + q)) (i % prodN rs)) r % p = _
    refine sumN_mod fun q _ => mul_cong rfl ?_
    rw [mix_dft hp rs _ _ _ h', ← dft_round hp h']
def turnN : List Nat → Nat → Nat
  | [], _ => 0
  | r :: rs, i => (i % r) * prodN rs + turnN rs (i / r)
theorem turnN_at {r : Nat} {rs : List Nat} {t q : Nat} (hq : q < r) : turnN (r :: rs) (t * r + q) = q * prodN rs + turnN rs t := by
  show ((t * r + q) % r) * prodN rs + turnN rs ((t * r + q) / r) = _
  rw [Nat.mul_comm t r, Nat.mul_add_mod, Nat.mod_eq_of_lt hq, Nat.mul_add_div (by omega), Nat.div_eq_of_lt hq, Nat.add_zero]
theorem prodN_at {r m t q : Nat} (ht : t < m) (hq : q < r) : t * r + q < r * m := by
  have : (t + 1) * r ≤ m * r := Nat.mul_le_mul_right r ht
  rw [Nat.succ_mul] at this
  rw [Nat.mul_comm r m]
  omega
theorem turnN_lt : ∀ (rs : List Nat) (i : Nat), i < prodN rs → turnN rs i < prodN rs
  | [], _, _ => Nat.one_pos
  | r :: rs, i, h => by
    have hr : 0 < r := Nat.pos_of_ne_zero fun c => by subst c; simp [prodN] at h
    have h2 : i / r < prodN rs := Nat.div_lt_of_lt_mul h
    have := turnN_lt rs _ h2
    have h1 : i % r < r := Nat.mod_lt _ hr
    show (i % r) * prodN rs + turnN rs (i / r) < r * prodN rs
    have : (i % r + 1) * prodN rs ≤ r * prodN rs := Nat.mul_le_mul_right _ h1
    rw [Nat.succ_mul] at this
    omega
def runA : List Nat → Int → (Nat → Int) → Nat → Int
  | [], _, g, _ => g 0
  | r :: rs, w, g, i => sumN (fun q => w ^ (q * i) * runA rs (w ^ r) (fun t => g (q * prodN rs + t)) (i % prodN rs)) r
theorem runA_mix : ∀ (rs : List Nat) (w : Int) (f g : Nat → Int), (∀ t, t < prodN rs → g (turnN rs t) = f t) → ∀ i, runA rs w g i = mixA rs w f i
  | [], _, _, _, h, _ => h 0 Nat.one_pos
  | r :: rs, w, f, g, h, i => by
    refine sumN_congr fun q hq => congrArg (_ * ·) (runA_mix rs _ _ _ (fun t ht => ?_) _)
    rw [← turnN_at hq]
    exact h _ (prodN_at ht hq)
theorem run_dft {p : Int} (hp : (1 : Int) % p = 1) {rs : List Nat} {w : Int} {f g : Nat → Int} (h : w ^ prodN rs % p = 1) (hg : ∀ t, t < prodN rs → g (turnN rs t) = f t) (i : Nat) : runA rs w g i % p = dftA w f (prodN rs) i % p := by
  rw [runA_mix rs w f g hg i, mix_dft hp rs w f i h]
end Go.Proofs.YtndkmnjbjlfeaaaGreat.D11
end
section
namespace Go.Proofs.YtndkmnjbjlfeaaaGreat.D14
open Go Go.RowKit Go.Proofs.YtndkmnjbjlfeaaaGreatW.PrintWords Go.Proofs.YtndkmnjbjlfeaaaGreatW.PrintLast Go.Proofs.YtndkmnjbjlfeaaaGreatW.PrintMore Go.Proofs.YtndkmnjbjlfeaaaGreat.Given Go.Proofs.YtndkmnjbjlfeaaaGreat.M Go.Proofs.YtndkmnjbjlfeaaaGreat.Mont Go.Proofs.YtndkmnjbjlfeaaaGreat.XS Go.Proofs.YtndkmnjbjlfeaaaGreat.XT Go.Proofs.YtndkmnjbjlfeaaaGreat.XR Go.Proofs.YtndkmnjbjlfeaaaGreat.Num Go.Proofs.YtndkmnjbjlfeaaaGreat.XK Go.Proofs.YtndkmnjbjlfeaaaGreat.F06 Go.Proofs.YtndkmnjbjlfeaaaGreat.T10 Go.Proofs.YtndkmnjbjlfeaaaGreat.D11 Go.Proofs.YtndkmnjbjlfeaaaGreat.XW Go.Proofs.YtndkmnjbjlfeaaaGreat.XG Go.Proofs.YtndkmnjbjlfeaaaGreat.XM
set_option linter.unusedVariables false
noncomputable def radOk (n : Nat) : Bool := match mixed_Radices.f 60 (n : Int), epicycleref14_Radices.f 60 (n : Int) with
  | some a, some b => a.1 == b.1 && a.2 == b.2 && (!a.2 || (prodN (a.1.map Int.toNat) == n && a.1.all (fun r => decide (2 ≤ r) && decide (r ≤ 7)) && decide (a.1.length ≤ 10) && decide (1 ≤ n)))
  | _, _ => false
theorem rad_all : (List.range 1025).all radOk = true := by kernel_rfl
def iL (rs : List Nat) : List Int := rs.map fun r : Nat => (r : Int)
theorem iL_len (rs : List Nat) : (iL rs).length = rs.length := List.length_map _
theorem iL_rd {rs : List Nat} {i : Nat} (h : i < rs.length) : rd (iL rs) (i : Int) = (rs[i] : Int) := by
  rw [rd_at (by rw [iL_len]; exact h)]
  exact List.getElem_map _
structure Rads (rs : List Nat) (n : Nat) : Prop where
  prod : prodN rs = n
  two : ∀ r ∈ rs, 2 ≤ r ∧ r ≤ 7
  few : rs.length ≤ 10
  pos : 1 ≤ n
  top : n ≤ 1024
theorem toNat_back : ∀ l : List Int, (∀ r ∈ l, 2 ≤ r) → l = iL (l.map Int.toNat)
  | [], _ => rfl
  | x :: l, h => by
    have h1 := h x List.mem_cons_self
    have h2 := toNat_back l fun r hr => h r (List.mem_cons_of_mem _ hr)
    show x :: l = ((x.toNat : Nat) : Int) :: iL (l.map Int.toNat)
    rw [← h2, Int.toNat_of_nonneg (by omega)]
theorem rad_nat {n : Nat} (hn : n ≤ 1024) : ∃ l b, mixed_Radices.f 60 (n : Int) = some (l, b) ∧ epicycleref14_Radices.f 60 (n : Int) = some (l, b) ∧ (b = true → ∃ rs, l = iL rs ∧ Rads rs n) := by
  have h := List.all_eq_true.1 rad_all n (List.mem_range.2 (by omega))
  unfold radOk at h
  split at h
  · rename_i a b ea eb
    obtain ⟨a1, a2⟩ := a
    obtain ⟨b1, b2⟩ := b
    simp only [Bool.and_eq_true, beq_iff_eq] at h
    obtain ⟨⟨h1, h2⟩, h3⟩ := h
    subst h1
    subst h2
    refine ⟨a1, a2, ea, eb, fun hb => ?_⟩
    subst hb
    simp only [Bool.not_true, Bool.false_or, Bool.and_eq_true, beq_iff_eq, decide_eq_true_eq, List.all_eq_true] at h3
    obtain ⟨⟨⟨h3, h4⟩, h5⟩, h6⟩ := h3
    refine ⟨a1.map Int.toNat, toNat_back a1 fun r hr => (h4 r hr).1, h3, fun r hr => ?_, by rw [List.length_map]; exact h5, h6, hn⟩
    obtain ⟨x, hx, rfl⟩ := List.mem_map.1 hr
    have := h4 x hx
    omega
  · cases h
theorem rad_ev (n : Int) : ∃ l b, Ev (fun k => mixed_Radices.f k n) (l, b) ∧ Ev (fun k => epicycleref14_Radices.f k n) (l, b) ∧ (b = true → ∃ rs m, n = ((m : Nat) : Int) ∧ l = iL rs ∧ Rads rs m) := by
  have J : ∀ l, Ev (fun k => epicycleref14_Radices.j0 k n l true) (l, false) := fun l => stepE ⟨_, fun k => by simp only [epicycleref14_Radices.j0]; rw [if_pos trivial], Ev.now _⟩
  by_cases h1 : n < 1
  · exact ⟨[], false, Ev.congr (fun k => rfl) (evP h1 (Ev.now _)), Ev.congr (fun k => rfl) (evP h1 (J _)), fun h => by cases h⟩
  by_cases h2 : n > 1024
  · refine ⟨[], false, Ev.congr (fun k => rfl) (evN h1 (evP h2 (Ev.now _))), Ev.congr (fun k => rfl) (evN h1 ?_), fun h => by cases h⟩
    rw [decide_eq_true h2]
    exact J _
  obtain ⟨m, rfl⟩ : ∃ m : Nat, n = m := ⟨n.toNat, by omega⟩
  obtain ⟨l, b, ha, hb, h⟩ := rad_nat (n := m) (by omega)
  exact ⟨l, b, Ev.of (g := fun k => mixed_Radices.f k (m : Int)) (fun k => mixed_Radices.mono m k) (k := 60) ha, Ev.of (g := fun k => epicycleref14_Radices.f k (m : Int)) (fun k => epicycleref14_Radices.mono m k) (k := 60) hb, fun e => (h e).imp fun rs hr => ⟨m, rfl, hr⟩⟩
theorem prodN_pos : ∀ (rs : List Nat), (∀ r ∈ rs, 2 ≤ r ∧ r ≤ 7) → 1 ≤ prodN rs
  | [], _ => Nat.le_refl _
  | r :: rs, h => by
    have h1 := (h r List.mem_cons_self).1
    have h2 := prodN_pos rs fun x hx => h x (List.mem_cons_of_mem _ hx)
    exact Nat.mul_pos (show 0 < r by omega) h2
theorem w64n {x : Nat} (h : x ≤ 1000000000000) : wrap64 (x : Int) = (x : Int) := w64_id _ (by omega) (by omega)
theorem size_l0 {rs : List Nat} (hl : rs.length ≤ 10) (h2 : ∀ r ∈ rs, 2 ≤ r ∧ r ≤ 7) (rest : List Nat) : ∀ (i a : Nat), rs.drop i = rest → i ≤ rs.length → 1 ≤ a → a * prodN rest ≤ 1024 →
    Ev (fun k => digits_Size.l0 k (a : Int) false (iL rs) ((iL rs).length : Int) (i : Int)) (((a * prodN rest : Nat) : Int), 0) := by
  have ll := iL_len rs
  induction rest with
  | nil =>
    intro i a hd hi ha hp
    have hlen : rs.length ≤ i := List.drop_eq_nil_iff.1 hd
    rw [show a * prodN [] = a from Nat.mul_one a]
    exact stepE ⟨_, fun k => by simp only [digits_Size.l0]; rw [if_neg (by omega), if_neg Bool.false_ne_true], Ev.now _⟩
  | cons r rest ih =>
    intro i a hd hi ha hp
    have hlt : i < rs.length := by
      refine Nat.lt_of_not_le fun c => ?_
      rw [List.drop_eq_nil_of_le c] at hd
      cases hd
    rw [List.drop_eq_getElem_cons hlt] at hd
    injection hd with hd1 hd2
    have hr := h2 r (by rw [← hd1]; exact List.getElem_mem hlt)
    have ws : wrap64 ((i : Int) + 1) = ((i + 1 : Nat) : Int) := by clear ih hp; exact wrap_succ (by omega)
    have p1 : (i : Int) < ((iL rs).length : Int) := by clear ih hp; omega
    have p2 : (0 : Int) ≤ (i : Int) := Int.natCast_nonneg _
    have p3 : ¬ (r : Int) < 2 := by clear ih hp; omega
    have p4 : ¬ (a : Int) = 0 := by clear ih hp; omega
    have hi1 : i + 1 ≤ rs.length := hlt
    have hr0 : 0 < r := Nat.lt_of_lt_of_le (by decide) hr.1
    have hpos := prodN_pos rest fun x hx => h2 x (by rw [← hd2] at hx; exact List.mem_of_mem_drop hx)
    have hrd := iL_rd hlt
    rw [hd1] at hrd
    have har : a * r * prodN rest ≤ 1024 := by rw [Nat.mul_assoc]; exact hp
    have har' : a * r ≤ 1024 := Nat.le_trans (Nat.le_mul_of_pos_right _ hpos) har
    have ha4 : a ≤ 1024 := Nat.le_trans (Nat.le_mul_of_pos_right _ hr0) har'
    have hdiv : r ≤ 4096 / a := (Nat.le_div_iff_mul_le ha).2 (by rw [Nat.mul_comm]; exact Nat.le_trans har' (by decide))
    have wd : wrap64 (Int.tdiv (4096 : Int) (a : Int)) = ((4096 / a : Nat) : Int) := by
      rw [tdiv_pos (by decide), show (4096 : Int) = ((4096 : Nat) : Int) from rfl, ← Int.natCast_ediv]
      exact w64n (Nat.le_trans (Nat.div_le_self _ _) (by decide))
    have wm : wrap64 ((a : Int) * (r : Int)) = ((a * r : Nat) : Int) := by rw [← Int.natCast_mul]; exact w64n (Nat.le_trans har' (by decide))
    have p5 : ¬ (r : Int) > ((4096 / a : Nat) : Int) := by
      intro c
      exact Nat.not_lt.2 hdiv (Int.ofNat_lt.1 c)
    have IH := ih (i + 1) (a * r) hd2 hi1 (Nat.mul_pos ha hr0) har
    rw [show a * prodN (r :: rest) = a * r * prodN rest from (Nat.mul_assoc _ _ _).symm]
    refine stepE ⟨_, fun k => by simp only [digits_Size.l0]; rw [if_pos p1, if_pos p2, if_pos p1, hrd, if_neg p3, if_neg Bool.false_ne_true, if_neg p4, wd, decide_eq_false p5], ?_⟩
    exact stepE ⟨_, fun k => by simp only [digits_Size.j1]; rw [if_neg Bool.false_ne_true, wm, ws], IH⟩
theorem size_ev {rs : List Nat} {n : Nat} (h : Rads rs n) : Ev (fun k => digits_Size.f k (iL rs)) ((n : Int), 0) := by
  have ll := iL_len rs
  have hf := h.few
  have S := size_l0 h.few h.two rs 0 1 rfl (Nat.zero_le _) (Nat.le_refl _) (by rw [Nat.one_mul, h.prod]; exact h.top)
  rw [Nat.one_mul, h.prod] at S
  exact Ev.congr (fun k => rfl) (evN (by omega) S)
theorem turn_l0 {rs : List Nat} (hl : rs.length ≤ 10) (h2 : ∀ r ∈ rs, 2 ≤ r ∧ r ≤ 7) (rest : List Nat) : ∀ (i x o : Nat), rs.drop i = rest → i ≤ rs.length → x ≤ 4096 → (o + 1) * prodN rest ≤ 4096 →
    Ev (fun k => digits_turn.l0 k (x : Int) (o : Int) (iL rs) ((iL rs).length : Int) (i : Int)) ((o * prodN rest + turnN rest x : Nat) : Int) := by
  have ll := iL_len rs
  induction rest with
  | nil =>
    intro i x o hd hi hx ho
    have hlen : rs.length ≤ i := List.drop_eq_nil_iff.1 hd
    rw [show o * prodN [] + turnN [] x = o by show o * 1 + 0 = o; omega]
    exact stepE ⟨_, fun k => by simp only [digits_turn.l0]; rw [if_neg (by omega)], Ev.now _⟩
  | cons r rest ih =>
    intro i x o hd hi hx ho
    have hlt : i < rs.length := by
      refine Nat.lt_of_not_le fun c => ?_
      rw [List.drop_eq_nil_of_le c] at hd
      cases hd
    rw [List.drop_eq_getElem_cons hlt] at hd
    injection hd with hd1 hd2
    have hr := h2 r (by rw [← hd1]; exact List.getElem_mem hlt)
    have ws : wrap64 ((i : Int) + 1) = ((i + 1 : Nat) : Int) := by clear ih ho; exact wrap_succ (by omega)
    have p1 : (i : Int) < ((iL rs).length : Int) := by clear ih ho; omega
    have p2 : (0 : Int) ≤ (i : Int) := Int.natCast_nonneg _
    have p4 : ¬ (r : Int) = 0 := by clear ih ho; omega
    have hi1 : i + 1 ≤ rs.length := hlt
    have hr0 : 0 < r := Nat.lt_of_lt_of_le (by decide) hr.1
    have hpos := prodN_pos rest fun x hx => h2 x (by rw [← hd2] at hx; exact List.mem_of_mem_drop hx)
    have hrd := iL_rd hlt
    rw [hd1] at hrd
    have hxr : x % r < r := Nat.mod_lt _ hr0
    have e0 : o * r + x % r + 1 ≤ (o + 1) * r := by rw [Nat.succ_mul]; exact Nat.add_lt_add_left hxr _
    have e1 : (o * r + x % r + 1) * prodN rest ≤ 4096 := by
      refine Nat.le_trans (Nat.mul_le_mul_right _ e0) ?_
      rw [Nat.mul_assoc]
      exact ho
    have e2 : o * r + x % r + 1 ≤ 4096 := Nat.le_trans (Nat.le_mul_of_pos_right _ hpos) e1
    have e3 : o * r + x % r ≤ 1000000000000 := Nat.le_trans (Nat.le_succ _) (Nat.le_trans e2 (by decide))
    have e4 : o * r ≤ 1000000000000 := Nat.le_trans (Nat.le_add_right _ _) e3
    have w1 : wrap64 (Int.tdiv (x : Int) (r : Int)) = ((x / r : Nat) : Int) := by
      rw [tdiv_pos (Int.natCast_nonneg _), ← Int.natCast_ediv]
      exact w64n (Nat.le_trans (Nat.div_le_self _ _) (Nat.le_trans hx (by decide)))
    have w2 : wrap64 ((o : Int) * (r : Int)) = ((o * r : Nat) : Int) := by rw [← Int.natCast_mul]; exact w64n e4
    have w3 : Int.tmod (x : Int) (r : Int) = ((x % r : Nat) : Int) := by rw [tmod_pos (Int.natCast_nonneg _), Int.natCast_emod]
    have w4 : wrap64 (((o * r : Nat) : Int) + ((x % r : Nat) : Int)) = ((o * r + x % r : Nat) : Int) := by rw [← Int.natCast_add]; exact w64n e3
    have IH := ih (i + 1) (x / r) (o * r + x % r) hd2 hi1 (Nat.le_trans (Nat.div_le_self _ _) hx) e1
    have ev : o * prodN (r :: rest) + turnN (r :: rest) x = (o * r + x % r) * prodN rest + turnN rest (x / r) := by
      show o * (r * prodN rest) + ((x % r) * prodN rest + turnN rest (x / r)) = _
      rw [Nat.add_mul, Nat.mul_assoc, Nat.add_assoc]
    rw [ev]
    exact stepE ⟨_, fun k => by simp only [digits_turn.l0]; rw [if_pos p1, if_pos p2, if_pos p1, hrd, if_neg p4, w1, w2, w3, w4, ws], IH⟩
theorem turn_ev {rs : List Nat} {n : Nat} (h : Rads rs n) {i : Nat} (hi : i < n) : Ev (fun k => digits_turn.f k (iL rs) (i : Int)) ((turnN rs i : Nat) : Int) := by
  have ht := h.top
  have S := turn_l0 h.few h.two rs 0 i 0 rfl (Nat.zero_le _) (by omega) (by rw [Nat.zero_add, Nat.one_mul, h.prod]; omega)
  rw [Nat.zero_mul, Nat.zero_add] at S
  exact Ev.congr (fun k => rfl) S
theorem turnN_inj : ∀ (rs : List Nat), (∀ r ∈ rs, 2 ≤ r ∧ r ≤ 7) → ∀ i j, i < prodN rs → j < prodN rs → turnN rs i = turnN rs j → i = j
  | [], _, i, j, hi, hj, _ => by
    have h1 : i < 1 := hi
    have h2 : j < 1 := hj
    omega
  | r :: rs, h, i, j, hi, hj, e => by
    have hr := (h r List.mem_cons_self).1
    have hi' : i / r < prodN rs := Nat.div_lt_of_lt_mul hi
    have hj' : j / r < prodN rs := Nat.div_lt_of_lt_mul hj
    have a1 := turnN_lt rs _ hi'
    have a2 := turnN_lt rs _ hj'
    have e' : (i % r) * prodN rs + turnN rs (i / r) = (j % r) * prodN rs + turnN rs (j / r) := e
    have d1 : i % r = j % r := by
      have h1 : ((i % r) * prodN rs + turnN rs (i / r)) / prodN rs = i % r := by
        rw [Nat.mul_comm, Nat.mul_add_div (by omega), Nat.div_eq_of_lt a1, Nat.add_zero]
      have h2 : ((j % r) * prodN rs + turnN rs (j / r)) / prodN rs = j % r := by
        rw [Nat.mul_comm, Nat.mul_add_div (by omega), Nat.div_eq_of_lt a2, Nat.add_zero]
      rw [← h1, ← h2, e']
    rw [d1] at e'
    have d2 := turnN_inj rs (fun x hx => h x (List.mem_cons_of_mem _ hx)) _ _ hi' hj' (by omega)
    rw [← Nat.div_add_mod i r, ← Nat.div_add_mod j r, d1, d2]
theorem order_l0 {rs : List Nat} {n : Nat} (h : Rads rs n) {l : List Int} (hl : l.length = n) (d : Nat) : ∀ (i : Nat) (y : List Int), i + d = n → y.length = n → (∀ x ∈ y, x ∈ l ∨ x = 0) → (∀ t : Nat, t < i → rd y ((turnN rs t : Nat) : Int) = rd l (t : Int)) →
    ∃ z, Ev (fun k => digits_Order.l0 k (iL rs) y l (l.length : Int) (i : Int)) (z, 0) ∧ z.length = n ∧ (∀ x ∈ z, x ∈ l ∨ x = 0) ∧ ∀ t : Nat, t < n → rd z ((turnN rs t : Nat) : Int) = rd l (t : Int) := by
  have ht := h.top
  induction d with
  | zero =>
    intro i y hi hy hm hv
    obtain rfl : i = n := by omega
    exact ⟨y, stepE ⟨_, fun k => by simp only [digits_Order.l0]; rw [if_neg (by omega)], Ev.now _⟩, hy, hm, hv⟩
  | succ d ih =>
    intro i y hi hy hm hv
    have hlt : i < n := by omega
    have ht' : turnN rs i < n := by rw [← h.prod]; exact turnN_lt rs i (by rw [h.prod]; exact hlt)
    have p1 : (i : Int) < (l.length : Int) := by omega
    have p2 : (0 : Int) ≤ (i : Int) := Int.natCast_nonneg _
    have ws : wrap64 ((i : Int) + 1) = ((i + 1 : Nat) : Int) := wrap_succ (by omega)
    have q0 : (0 : Int) ≤ ((turnN rs i : Nat) : Int) := Int.natCast_nonneg _
    have q1 : ((turnN rs i : Nat) : Int) < (y.length : Int) := by rw [hy]; exact Int.ofNat_lt.2 ht'
    obtain ⟨z, E, z1, z2, z3⟩ := ih (i + 1) (y.set (turnN rs i) (rd l (i : Int))) (by omega) (by rw [List.length_set]; exact hy) (fun x hx => by
      rcases List.mem_or_eq_of_mem_set hx with h' | h'
      · exact hm x h'
      · exact .inl (by rw [h']; exact rd_mem (by omega))) (fun t ht => by
      by_cases c : t = i
      · subst c
        exact rd_set _ (by omega)
      · rw [rd_set_ne _ fun e => c (turnN_inj rs h.two i t (by rw [h.prod]; exact hlt) (by rw [h.prod]; omega) e).symm]
        exact hv t (by omega))
    refine ⟨z, stepE ⟨_, fun k => by simp only [digits_Order.l0]; rw [if_pos p1, if_pos p2, if_pos p1, ws], ?_⟩, z1, z2, z3⟩
    refine Ev.bind (turn_ev h hlt) (evP q0 (evP q1 ?_))
    rw [Int.toNat_natCast]
    exact E
theorem order_ev {rs : List Nat} {n : Nat} (h : Rads rs n) {l : List Int} (hl : l.length = n) : ∃ z, Ev (fun k => digits_Order.f k l (iL rs)) (z, 0) ∧ z.length = n ∧ (∀ x ∈ z, x ∈ l ∨ x = 0) ∧ ∀ t : Nat, t < n → rd z ((turnN rs t : Nat) : Int) = rd l (t : Int) := by
  have ht := h.top
  obtain ⟨z, E, z1, z2, z3⟩ := order_l0 h hl n 0 (List.replicate n 0) (by omega) List.length_replicate (fun x hx => .inr (List.eq_of_mem_replicate hx)) (fun t ht => by omega)
  refine ⟨z, Ev.congr (fun k => rfl) (Ev.bind (size_ev h) (evP rfl (evP (by rw [hl]) (evP (Int.natCast_nonneg _) (evP (by show (n : Int).toNat ≤ _; omega) (Ev.congr (fun k => ?_) E)))))), z1, z2, z3⟩
  simp only [Int.toNat_natCast]
  rfl
end Go.Proofs.YtndkmnjbjlfeaaaGreat.D14
end
section
namespace Go.Proofs.YtndkmnjbjlfeaaaGreat.D14
open Go Go.RowKit Go.Proofs.YtndkmnjbjlfeaaaGreatW.PrintWords Go.Proofs.YtndkmnjbjlfeaaaGreatW.PrintLast Go.Proofs.YtndkmnjbjlfeaaaGreatW.PrintMore Go.Proofs.YtndkmnjbjlfeaaaGreat.Given Go.Proofs.YtndkmnjbjlfeaaaGreat.M Go.Proofs.YtndkmnjbjlfeaaaGreat.Mont Go.Proofs.YtndkmnjbjlfeaaaGreat.XS Go.Proofs.YtndkmnjbjlfeaaaGreat.XT Go.Proofs.YtndkmnjbjlfeaaaGreat.XR Go.Proofs.YtndkmnjbjlfeaaaGreat.Num Go.Proofs.YtndkmnjbjlfeaaaGreat.XK Go.Proofs.YtndkmnjbjlfeaaaGreat.F06 Go.Proofs.YtndkmnjbjlfeaaaGreat.T10 Go.Proofs.YtndkmnjbjlfeaaaGreat.D11 Go.Proofs.YtndkmnjbjlfeaaaGreat.XW Go.Proofs.YtndkmnjbjlfeaaaGreat.XG Go.Proofs.YtndkmnjbjlfeaaaGreat.XM
set_option linter.unusedVariables false
structure Stage (F : Fld) (T : List Int) (n r m : Nat) (w : Int) : Prop where
  good : GoodFld F
  len : T.length = n
  tab : ∀ j, j < n → rd T (j : Int) = mIn F.p (w ^ j % F.p)
  round : ∀ a, w ^ a % F.p = w ^ (a % n) % F.p
  r2 : 2 ≤ r ∧ r ≤ 7
  m1 : 1 ≤ m
  dvd : r * m ∣ n
  pos : 1 ≤ n
  top : n ≤ 1024
section
variable {F : Fld} {T : List Int} {n r m : Nat} {w : Int}
theorem Stage.rm (S : Stage F T n r m w) : r * m ≤ n := Nat.le_of_dvd S.pos S.dvd
theorem Stage.rm1 (S : Stage F T n r m w) : 1 ≤ r * m := Nat.mul_pos (Nat.lt_of_lt_of_le (by decide) S.r2.1) S.m1
theorem Stage.m_le (S : Stage F T n r m w) : m ≤ 1024 := Nat.le_trans (Nat.le_mul_of_pos_left _ (Nat.lt_of_lt_of_le (by decide) S.r2.1)) (Nat.le_trans S.rm S.top)
def Wr (n r m : Nat) (w : Int) : Int := w ^ (n / (r * m))
theorem Stage.lift (S : Stage F T n r m w) {a : Nat} (ha : a ≤ 1000000) : mixed_stage_lift.f [F] T (r : Int) (m : Int) (a : Int) = some (mIn F.p (w ^ (a * (n / (r * m)) % n) % F.p)) := by
  have h1 := S.rm
  have h2 := S.rm1
  have h3 := S.top
  have h4 := S.pos
  have h5 := S.len
  have hq : n / (r * m) ≤ 1024 := Nat.le_trans (Nat.div_le_self _ _) h3
  have haq : a * (n / (r * m)) ≤ 1000000000000 := Nat.le_trans (Nat.mul_le_mul ha hq) (by decide)
  have w1 : wrap64 ((r : Int) * (m : Int)) = ((r * m : Nat) : Int) := by rw [← Int.natCast_mul]; exact w64n (Nat.le_trans h1 (Nat.le_trans h3 (by decide)))
  have w2 : wrap64 (Int.tdiv (T.length : Int) ((r * m : Nat) : Int)) = ((n / (r * m) : Nat) : Int) := by
    rw [h5, tdiv_pos (Int.natCast_nonneg _), ← Int.natCast_ediv]
    exact w64n (Nat.le_trans hq (by decide))
  have w3 : wrap64 ((a : Int) * ((n / (r * m) : Nat) : Int)) = ((a * (n / (r * m)) : Nat) : Int) := by rw [← Int.natCast_mul]; exact w64n haq
  have w4 : Int.tmod ((a * (n / (r * m)) : Nat) : Int) (T.length : Int) = ((a * (n / (r * m)) % n : Nat) : Int) := by
    rw [h5, tmod_pos (Int.natCast_nonneg _), Int.natCast_emod]
  have hm : a * (n / (r * m)) % n < n := Nat.mod_lt _ h4
  have q1 : ¬ ((r * m : Nat) : Int) = 0 := fun e => by
    have e' : r * m = 0 := Int.ofNat_inj.1 e
    rw [e'] at h2
    exact absurd h2 (by decide)
  have q2 : ¬ (T.length : Int) = 0 := by omega
  have q3 : (0 : Int) ≤ ((a * (n / (r * m)) % n : Nat) : Int) := Int.natCast_nonneg _
  have q4 : ((a * (n / (r * m)) % n : Nat) : Int) < (T.length : Int) := by rw [h5]; exact Int.ofNat_lt.2 hm
  unfold mixed_stage_lift.f
  rw [w1, w2, w3, w4, if_neg q1, if_neg q2, if_pos q3, if_pos q4, S.tab _ hm]
theorem Stage.times (S : Stage F T n r m w) {a : Nat} {x : Int} (hx : U x) : field_Field_Times.f [F] (mIn F.p (w ^ (a * (n / (r * m)) % n) % F.p)) x = some (Wr n r m w ^ a * x % F.p) := by
  rw [field_Field_Times.at_ ⟨show U (mIn F.p (w ^ (a * (n / (r * m)) % n) % F.p)) from S.good.uE _, hx⟩, mul_in S.good.m, ← S.round, emod_mul_l]
  unfold Wr
  rw [← Int.pow_mul, Nat.mul_comm a]
def colA (y : List Int) (s m k : Nat) (q : Nat) : Int := rd y ((s + (q * m + k) : Nat) : Int)
def newA (W p : Int) (y : List Int) (s r m k i : Nat) : Int := sumN (fun q => W ^ (q * (i * m)) * (W ^ (q * k) * colA y s m k q % p)) r % p
theorem Stage.one_l0 (S : Stage F T n r m w) {y : List Int} (hy : y.length = n) (hu : ∀ x ∈ y, U x) {s k : Nat} (hs : s + r * m ≤ n) (hk : k < m) {z : List Int} (d : Nat) : ∀ (q : Nat) (t : List Int), q + d = r → t.length = r → (∀ j : Nat, j < q → rd t (j : Int) = Wr n r m w ^ (j * k) * colA y s m k j % F.p) →
    (∀ t : List Int, t.length = r → (∀ j : Nat, j < r → rd t (j : Int) = Wr n r m w ^ (j * k) * colA y s m k j % F.p) → Ev (fun κ => mixed_stage_oneW.l1 s (r * m) κ y (k : Int) t (r : Int) 0 [F] T (r : Int) (m : Int)) z) →
    Ev (fun κ => mixed_stage_oneW.l0 s (r * m) κ y (k : Int) t (r : Int) (q : Int) [F] T (r : Int) (m : Int)) z := by
  have hr7 := S.r2
  have hm := S.m_le
  have htop := S.top
  induction d with
  | zero =>
    intro q t hq ht hv H
    obtain rfl : q = r := by omega
    have E := H t ht hv
    have ht' : (t.length : Int) = (q : Int) := by rw [ht]
    exact stepE ⟨_, fun k => by simp only [mixed_stage_oneW.l0]; rw [if_neg (by omega), ht'], E⟩
  | succ d ih =>
    intro q t hq ht hv H
    have hqr : q < r := by clear ih hs; omega
    have ws : wrap64 ((q : Int) + 1) = ((q + 1 : Nat) : Int) := (by clear ih hs; exact wrap_succ (by omega))
    have p0 : (q : Int) < (r : Int) := Int.ofNat_lt.2 hqr
    have p2 : (0 : Int) ≤ (q : Int) := Int.natCast_nonneg _
    have p3 : (q : Int) < (t.length : Int) := by rw [ht]; exact Int.ofNat_lt.2 hqr
    have hq7 : q ≤ 7 := by clear ih hs; omega
    have hk10 : k ≤ 1024 := by clear ih hs; omega
    have hqk : q * k ≤ 7168 := Nat.le_trans (Nat.mul_le_mul hq7 hk10) (by decide)
    have hqk' : q * k ≤ 1000000 := Nat.le_trans hqk (by decide)
    have hqm : q * m ≤ 7168 := Nat.le_trans (Nat.mul_le_mul hq7 hm) (by decide)
    have hin : q * m + k < r * m := by
      have h1 : (q + 1) * m ≤ r * m := Nat.mul_le_mul_right _ hqr
      rw [Nat.succ_mul] at h1
      exact Nat.lt_of_lt_of_le (Nat.add_lt_add_left hk _) h1
    have w1 : wrap64 ((q : Int) * (k : Int)) = ((q * k : Nat) : Int) := by rw [← Int.natCast_mul]; exact w64n (Nat.le_trans hqk (by decide))
    have w2 : wrap64 ((q : Int) * (m : Int)) = ((q * m : Nat) : Int) := by rw [← Int.natCast_mul]; exact w64n (Nat.le_trans hqm (by decide))
    have w3 : wrap64 (((q * m : Nat) : Int) + (k : Int)) = ((q * m + k : Nat) : Int) := by rw [← Int.natCast_add]; exact w64n (Nat.le_trans (Nat.le_of_lt hin) (Nat.le_trans S.rm (Nat.le_trans htop (by decide))))
    have q0 : (0 : Int) ≤ ((q * m + k : Nat) : Int) := Int.natCast_nonneg _
    have q1 : ((q * m + k : Nat) : Int) < ((r * m : Nat) : Int) := Int.ofNat_lt.2 hin
    have er : rdW s y ((q * m + k : Nat) : Int) = colA y s m k q := by unfold rdW colA; rw [Int.natCast_add s]
    have uc : U (colA y s m k q) := hu _ (rd_mem (by rw [hy]; exact Nat.lt_of_lt_of_le (Nat.add_lt_add_left hin s) hs))
    have L := S.lift hqk'
    have Ti := S.times (a := q * k) uc
    refine stepE ⟨_, fun k => by simp only [mixed_stage_oneW.l0]; rw [if_pos p0, w1, w2, w3, er, ws, Int.toNat_natCast], ?_⟩
    refine evB L (evP q0 (evP q1 ?_))
    refine evB Ti (evP p2 (evP p3 ?_))
    have hq1 : q + 1 + d = r := by rw [← hq, Nat.add_assoc, Nat.add_comm 1 d]
    have hqt : q < t.length := by rw [ht]; exact hqr
    refine ih (q + 1) (t.set q (Wr n r m w ^ (q * k) * colA y s m k q % F.p)) hq1 (by rw [List.length_set]; exact ht) (fun j hj => ?_) H
    by_cases c : j = q
    · subst c
      exact rd_set _ hqt
    · rw [rd_set_ne _ (Ne.symm c)]
      exact hv j (Nat.lt_of_le_of_ne (Nat.le_of_lt_succ hj) c)
theorem Stage.one_l2 (S : Stage F T n r m w) {s k i : Nat} (hi : i < r) {t : List Int} (ht : t.length = r) {V : Nat → Int} (hv : ∀ j : Nat, j < r → rd t (j : Int) = V j % F.p) (hin : i * m + k < r * m) {z : List Int} {Y : List Int} (d : Nat) : ∀ q : Nat, q + d = r →
    Ev (fun κ => mixed_stage_oneW.l1 s (r * m) κ (Y.set (s + (i * m + k)) (sumN (fun q => Wr n r m w ^ (q * (i * m)) * (V q % F.p)) r % F.p)) (k : Int) t (r : Int) ((i + 1 : Nat) : Int) [F] T (r : Int) (m : Int)) z →
    Ev (fun κ => mixed_stage_oneW.l2 s (r * m) κ Y (k : Int) t (i : Int) (sumN (fun q => Wr n r m w ^ (q * (i * m)) * (V q % F.p)) q % F.p) (r : Int) (i : Int) t (r : Int) (q : Int) [F] T (r : Int) (m : Int)) z := by
  have hr7 := S.r2
  have hm := S.m_le
  have htop := S.top
  have hi7 : i ≤ 7 := by omega
  have him : i * m ≤ 7168 := Nat.le_trans (Nat.mul_le_mul hi7 hm) (by decide)
  induction d with
  | zero =>
    intro q hq E
    obtain rfl : q = r := by omega
    have ws : wrap64 ((i : Int) + 1) = ((i + 1 : Nat) : Int) := by clear hin him; exact wrap_succ (by omega)
    have w2 : wrap64 ((i : Int) * (m : Int)) = ((i * m : Nat) : Int) := by rw [← Int.natCast_mul]; exact w64n (Nat.le_trans him (by decide))
    have w3 : wrap64 (((i * m : Nat) : Int) + (k : Int)) = ((i * m + k : Nat) : Int) := by rw [← Int.natCast_add]; exact w64n (Nat.le_trans (Nat.le_of_lt hin) (Nat.le_trans S.rm (Nat.le_trans htop (by decide))))
    have q0 : (0 : Int) ≤ ((i * m + k : Nat) : Int) := Int.natCast_nonneg _
    have q1 : ((i * m + k : Nat) : Int) < ((q * m : Nat) : Int) := Int.ofNat_lt.2 hin
    have q2 : ¬ (q : Int) < (q : Int) := Int.lt_irrefl _
    exact stepE ⟨_, fun k => by simp only [mixed_stage_oneW.l2]; rw [if_neg q2, w2, w3, if_pos q0, if_pos q1, ws, Int.toNat_natCast], E⟩
  | succ d ih =>
    intro q hq E
    have hqr : q < r := by clear ih hin him; omega
    have ws : wrap64 ((q : Int) + 1) = ((q + 1 : Nat) : Int) := by clear ih hin him; exact wrap_succ (by omega)
    have p0 : (q : Int) < (r : Int) := Int.ofNat_lt.2 hqr
    have p2 : (0 : Int) ≤ (q : Int) := Int.natCast_nonneg _
    have p3 : (q : Int) < (t.length : Int) := by rw [ht]; exact Int.ofNat_lt.2 hqr
    have hq7 : q ≤ 7 := by clear ih hin him; omega
    have hqi : q * i ≤ 49 := Nat.mul_le_mul hq7 hi7
    have hqim : q * i * m ≤ 50176 := Nat.le_trans (Nat.mul_le_mul hqi hm) (by decide)
    have w1 : wrap64 ((q : Int) * (i : Int)) = ((q * i : Nat) : Int) := by rw [← Int.natCast_mul]; exact w64n (Nat.le_trans hqi (by decide))
    have w2 : wrap64 (((q * i : Nat) : Int) * (m : Int)) = ((q * i * m : Nat) : Int) := by rw [← Int.natCast_mul]; exact w64n (Nat.le_trans hqim (by decide))
    have L := S.lift (a := q * i * m) (Nat.le_trans hqim (by decide))
    have hvq := hv q hqr
    have ut : U (rd t (q : Int)) := by rw [hvq]; exact S.good.uE _
    have Ti := S.times (a := q * i * m) ut
    have A := field_Field_Add.at_ (F := F) (l := []) ⟨S.good.uE (sumN (fun q => Wr n r m w ^ (q * (i * m)) * (V q % F.p)) q), S.good.uE (Wr n r m w ^ (q * i * m) * rd t (q : Int))⟩
    have e : (sumN (fun q => Wr n r m w ^ (q * (i * m)) * (V q % F.p)) q % F.p + Wr n r m w ^ (q * i * m) * rd t (q : Int) % F.p) % F.p = sumN (fun q => Wr n r m w ^ (q * (i * m)) * (V q % F.p)) (q + 1) % F.p := by
      rw [hvq, Nat.mul_assoc]
      exact add_cong (Int.emod_emod _ _) (Int.emod_emod _ _)
    rw [e] at A
    refine stepE ⟨_, fun k => by simp only [mixed_stage_oneW.l2]; rw [if_pos p0, if_pos p2, if_pos p3, w1, w2, ws], ?_⟩
    refine evB L ?_
    refine evB Ti ?_
    refine evB A ?_
    exact ih (q + 1) (by rw [← hq, Nat.add_assoc, Nat.add_comm 1 d]) E
def putC (y : List Int) (s m k : Nat) (v : Nat → Int) : Nat → List Int
  | 0 => y
  | i + 1 => (putC y s m k v i).set (s + (i * m + k)) (v i)
theorem putC_len (y : List Int) (s m k : Nat) (v : Nat → Int) (i : Nat) : (putC y s m k v i).length = y.length := by
  induction i with
  | zero => rfl
  | succ i ih => show ((putC y s m k v i).set _ _).length = _; rw [List.length_set, ih]
theorem putC_off {y : List Int} {s m k : Nat} {v : Nat → Int} {x : Nat} (i : Nat) (h : ∀ j, j < i → s + (j * m + k) ≠ x) : rd (putC y s m k v i) (x : Int) = rd y (x : Int) := by
  induction i with
  | zero => rfl
  | succ i ih =>
    show rd ((putC y s m k v i).set _ _) _ = _
    rw [rd_set_ne _ (h i (Nat.lt_succ_self i))]
    exact ih fun j hj => h j (Nat.lt_succ_of_lt hj)
theorem putC_on {y : List Int} {s m k : Nat} {v : Nat → Int} (hm : 1 ≤ m) {j : Nat} (i : Nat) (hj : j < i) (hl : s + (j * m + k) < y.length) : rd (putC y s m k v i) ((s + (j * m + k) : Nat) : Int) = v j := by
  induction i with
  | zero => exact absurd hj (Nat.not_lt_zero _)
  | succ i ih =>
    show rd ((putC y s m k v i).set _ _) _ = _
    by_cases c : j = i
    · subst c
      exact rd_set _ (by rw [putC_len]; exact hl)
    · have hne : s + (i * m + k) ≠ s + (j * m + k) := fun e => by
        have e1 : i * m + k = j * m + k := Nat.add_left_cancel e
        have e2 : i * m = j * m := Nat.add_right_cancel e1
        exact c (Nat.eq_of_mul_eq_mul_right hm e2).symm
      rw [rd_set_ne _ hne]
      exact ih (Nat.lt_of_le_of_ne (Nat.le_of_lt_succ hj) c)
theorem Stage.one_l1 (S : Stage F T n r m w) {y : List Int} {s k : Nat} (hk : k < m) {t : List Int} (ht : t.length = r) {V : Nat → Int} (hv : ∀ j : Nat, j < r → rd t (j : Int) = V j % F.p) (d : Nat) : ∀ i : Nat, i + d = r →
    Ev (fun κ => mixed_stage_oneW.l1 s (r * m) κ (putC y s m k (fun i => sumN (fun q => Wr n r m w ^ (q * (i * m)) * (V q % F.p)) r % F.p) i) (k : Int) t (r : Int) (i : Int) [F] T (r : Int) (m : Int)) (putC y s m k (fun i => sumN (fun q => Wr n r m w ^ (q * (i * m)) * (V q % F.p)) r % F.p) r) := by
  have hr7 := S.r2
  induction d with
  | zero =>
    intro i hi
    obtain rfl : i = r := by omega
    exact stepE ⟨_, fun k => by simp only [mixed_stage_oneW.l1]; rw [if_neg (Int.lt_irrefl _)], Ev.now _⟩
  | succ d ih =>
    intro i hi
    have hir : i < r := by omega
    have p0 : (i : Int) < (r : Int) := by omega
    have ht' : (t.length : Int) = (r : Int) := by rw [ht]
    have hin : i * m + k < r * m := by
      have h1 : (i + 1) * m ≤ r * m := Nat.mul_le_mul_right _ hir
      rw [Nat.succ_mul] at h1
      exact Nat.lt_of_lt_of_le (Nat.add_lt_add_left hk _) h1
    have E := S.one_l2 (s := s) (Y := putC y s m k (fun i => sumN (fun q => Wr n r m w ^ (q * (i * m)) * (V q % F.p)) r % F.p) i) hir ht hv hin r 0 (by omega) (ih (i + 1) (by omega))
    rw [show sumN (fun q => Wr n r m w ^ (q * (i * m)) * (V q % F.p)) 0 = 0 from rfl, Int.zero_emod] at E
    refine stepE ⟨_, fun k => by simp only [mixed_stage_oneW.l1]; rw [if_pos p0, ht'], ?_⟩
    exact E
theorem Stage.one_ev (S : Stage F T n r m w) {y : List Int} (hy : y.length = n) (hu : ∀ x ∈ y, U x) {s k : Nat} (hs : s + r * m ≤ n) (hk : k < m) :
    Ev (fun κ => mixed_stage_oneW.f s (r * m) κ [F] T (r : Int) (m : Int) y (k : Int)) (putC y s m k (fun i => newA (Wr n r m w) F.p y s r m k i) r) := by
  have hr7 := S.r2
  have E := S.one_l0 hy hu hs hk (z := putC y s m k (fun i => newA (Wr n r m w) F.p y s r m k i) r) r 0 (List.replicate r 0) (by omega) List.length_replicate (fun j hj => absurd hj (Nat.not_lt_zero _)) (fun t ht hv => S.one_l1 (y := y) (s := s) hk ht hv r 0 (by omega))
  have q0 : (0 : Int) ≤ (r : Int) := Int.natCast_nonneg _
  have q1 : (r : Int).toNat ≤ 35184372088832 := by omega
  refine Ev.congr (fun k => rfl) (evP q0 (evP q1 (Ev.congr (fun k => ?_) E)))
  simp only [Option.bind_some, List.length_replicate, Int.toNat_natCast]
  rfl
end
end Go.Proofs.YtndkmnjbjlfeaaaGreat.D14
end
section
namespace Go.Proofs.YtndkmnjbjlfeaaaGreat.D14
open Go Go.RowKit Go.Proofs.YtndkmnjbjlfeaaaGreatW.PrintWords Go.Proofs.YtndkmnjbjlfeaaaGreatW.PrintLast Go.Proofs.YtndkmnjbjlfeaaaGreatW.PrintMore Go.Proofs.YtndkmnjbjlfeaaaGreat.Given Go.Proofs.YtndkmnjbjlfeaaaGreat.M Go.Proofs.YtndkmnjbjlfeaaaGreat.Mont Go.Proofs.YtndkmnjbjlfeaaaGreat.XS Go.Proofs.YtndkmnjbjlfeaaaGreat.XT Go.Proofs.YtndkmnjbjlfeaaaGreat.XR Go.Proofs.YtndkmnjbjlfeaaaGreat.Num Go.Proofs.YtndkmnjbjlfeaaaGreat.XK Go.Proofs.YtndkmnjbjlfeaaaGreat.F06 Go.Proofs.YtndkmnjbjlfeaaaGreat.T10 Go.Proofs.YtndkmnjbjlfeaaaGreat.D11 Go.Proofs.YtndkmnjbjlfeaaaGreat.XW Go.Proofs.YtndkmnjbjlfeaaaGreat.XG Go.Proofs.YtndkmnjbjlfeaaaGreat.XM
set_option linter.unusedVariables false
def stF (W : Int) (r m : Nat) (h : Nat → Int) (x : Nat) : Int := sumN (fun q => W ^ (q * (x % (r * m))) * h (x / (r * m) * (r * m) + (q * m + x % (r * m) % m))) r
theorem at_mod {r m b i k : Nat} (hi : i < r) (hk : k < m) : (b * (r * m) + (i * m + k)) % (r * m) = i * m + k ∧ (b * (r * m) + (i * m + k)) / (r * m) = b ∧ (i * m + k) % m = k ∧ i * m + k < r * m := by
  have hin : i * m + k < r * m := by
    have h1 : (i + 1) * m ≤ r * m := Nat.mul_le_mul_right _ hi
    rw [Nat.succ_mul] at h1
    exact Nat.lt_of_lt_of_le (Nat.add_lt_add_left hk _) h1
  refine ⟨?_, ?_, ?_, hin⟩
  · rw [Nat.mul_comm b, Nat.mul_add_mod, Nat.mod_eq_of_lt hin]
  · rw [Nat.mul_comm b, Nat.mul_add_div (Nat.lt_of_le_of_lt (Nat.zero_le _) hin), Nat.div_eq_of_lt hin, Nat.add_zero]
  · rw [Nat.mul_comm i, Nat.mul_add_mod, Nat.mod_eq_of_lt hk]
theorem at_m {r m b i k : Nat} (hk : k < m) : (b * (r * m) + (i * m + k)) % m = k := by
  rw [← Nat.mul_assoc, ← Nat.add_assoc, ← Nat.add_mul, Nat.mul_comm _ m, Nat.mul_add_mod, Nat.mod_eq_of_lt hk]
theorem at_form {r m x : Nat} (hm : 1 ≤ m) (hr : 1 ≤ r) : x = x / (r * m) * (r * m) + (x % (r * m) / m * m + x % m) ∧ x % (r * m) / m < r ∧ x % m < m := by
  have h1 : x % (r * m) % m = x % m := by rw [Nat.mul_comm r m, Nat.mod_mul_right_mod]
  refine ⟨?_, ?_, Nat.mod_lt _ hm⟩
  · rw [← h1]
    have e1 := Nat.div_add_mod x (r * m)
    have e2 := Nat.div_add_mod (x % (r * m)) m
    rw [Nat.mul_comm (x / (r * m)), Nat.mul_comm (x % (r * m) / m), e2, e1]
  · exact Nat.div_lt_of_lt_mul (by rw [Nat.mul_comm m r]; exact Nat.mod_lt _ (Nat.mul_pos hr hm))
theorem newA_st {W p : Int} {y : List Int} {r m b i k : Nat} (hi : i < r) (hk : k < m) : newA W p y (b * (r * m)) r m k i = stF W r m (fun x => rd y (x : Int)) (b * (r * m) + (i * m + k)) % p := by
  obtain ⟨e1, e2, e3, _⟩ := at_mod (b := b) hi hk
  unfold newA stF
  rw [e1, e2]
  refine sumN_mod fun q _ => ?_
  rw [emod_mul_r, e3, ← Int.mul_assoc, ← Int.pow_add, ← Nat.mul_add]
  rfl
section
variable {F : Fld} {T : List Int} {n r m : Nat} {w : Int} {y0 : List Int}
structure InvC (F : Fld) (n r m : Nat) (w : Int) (y0 : List Int) (b k : Nat) (y : List Int) : Prop where
  len : y.length = n
  new : ∀ x, x < n → (x / (r * m) < b ∨ (x / (r * m) = b ∧ x % m < k)) → rd y (x : Int) = stF (Wr n r m w) r m (fun x => rd y0 (x : Int)) x % F.p
  old : ∀ x, x < n → ¬ (x / (r * m) < b ∨ (x / (r * m) = b ∧ x % m < k)) → rd y (x : Int) = rd y0 (x : Int)
theorem InvC.u (S : Stage F T n r m w) (hl : y0.length = n) (h0 : ∀ x ∈ y0, U x) {b k : Nat} {y : List Int} (h : InvC F n r m w y0 b k y) : ∀ x ∈ y, U x := fun x hx => by
  obtain ⟨j, hj, rfl⟩ := List.mem_iff_getElem.1 hx
  have hjn : j < n := by rw [← h.len]; exact hj
  rw [← rd_at hj]
  by_cases c : j / (r * m) < b ∨ (j / (r * m) = b ∧ j % m < k)
  · rw [h.new j hjn c]; exact S.good.uE _
  · rw [h.old j hjn c]; exact h0 _ (rd_mem (by rw [hl]; exact hjn))
theorem InvC.next (S : Stage F T n r m w) {b : Nat} {y : List Int} (h : InvC F n r m w y0 b m y) : InvC F n r m w y0 (b + 1) 0 y := by
  have key : ∀ x, (x / (r * m) < b + 1 ∨ (x / (r * m) = b + 1 ∧ x % m < 0)) ↔ (x / (r * m) < b ∨ (x / (r * m) = b ∧ x % m < m)) := fun x => by
    have := Nat.mod_lt x S.m1
    constructor
    · rintro (h1 | ⟨_, h2⟩)
      · rcases Nat.lt_or_eq_of_le (Nat.le_of_lt_succ h1) with h2 | h2
        · exact .inl h2
        · exact .inr ⟨h2, this⟩
      · exact absurd h2 (Nat.not_lt_zero _)
    · rintro (h1 | ⟨h1, _⟩)
      · exact .inl (Nat.lt_succ_of_lt h1)
      · exact .inl (by rw [h1]; exact Nat.lt_succ_self _)
  exact ⟨h.len, fun x hx c => h.new x hx ((key x).1 c), fun x hx c => h.old x hx fun c' => c ((key x).2 c')⟩
theorem InvC.col (S : Stage F T n r m w) {b k : Nat} (hk : k < m) (hb : b * (r * m) + r * m ≤ n) {y : List Int} (h : InvC F n r m w y0 b k y) : InvC F n r m w y0 b (k + 1) (putC y (b * (r * m)) m k (fun i => newA (Wr n r m w) F.p y (b * (r * m)) r m k i) r) := by
  have hr1 : 1 ≤ r := Nat.le_trans (by decide) S.r2.1
  have old : ∀ q, q < r → colA y (b * (r * m)) m k q = colA y0 (b * (r * m)) m k q := fun q hq => by
    obtain ⟨e1, e2, e3, e4⟩ := at_mod (b := b) hq hk
    refine h.old _ (Nat.lt_of_lt_of_le (Nat.add_lt_add_left e4 _) hb) ?_
    rw [e2, at_m hk]
    rintro (c | ⟨_, c⟩)
    · exact absurd c (Nat.lt_irrefl _)
    · exact absurd c (Nat.lt_irrefl _)
  have new : ∀ i, newA (Wr n r m w) F.p y (b * (r * m)) r m k i = newA (Wr n r m w) F.p y0 (b * (r * m)) r m k i := fun i => by
    unfold newA
    exact congrArg (· % F.p) (sumN_congr fun q hq => by rw [old q hq])
  have off : ∀ x, ¬ (x / (r * m) = b ∧ x % m = k) → rd (putC y (b * (r * m)) m k (fun i => newA (Wr n r m w) F.p y (b * (r * m)) r m k i) r) (x : Int) = rd y (x : Int) := fun x hx => by
    refine putC_off r fun j hj e => hx ?_
    obtain ⟨e1, e2, _, _⟩ := at_mod (b := b) hj hk
    rw [← e]
    exact ⟨e2, at_m hk⟩
  refine ⟨by rw [putC_len]; exact h.len, fun x hx c => ?_, fun x hx c => ?_⟩
  · by_cases hxk : x / (r * m) = b ∧ x % m = k
    · obtain ⟨f1, f2, f3⟩ := at_form (x := x) S.m1 hr1
      rw [hxk.1, hxk.2] at f1
      have hlt : b * (r * m) + (x % (r * m) / m * m + k) < y.length := by rw [h.len, ← f1]; exact hx
      have e := putC_on (y := y) (v := fun i => newA (Wr n r m w) F.p y (b * (r * m)) r m k i) S.m1 r f2 hlt
      rw [← f1] at e
      rw [e, new, newA_st f2 hk, ← f1]
    · rw [off x hxk]
      refine h.new x hx ?_
      rcases c with c | ⟨c1, c2⟩
      · exact .inl c
      · exact .inr ⟨c1, Nat.lt_of_le_of_ne (Nat.le_of_lt_succ c2) fun e => hxk ⟨c1, e⟩⟩
  · rw [off x fun e => c (.inr ⟨e.1, by rw [e.2]; exact Nat.lt_succ_self _⟩)]
    refine h.old x hx fun c' => c ?_
    rcases c' with c' | ⟨c1, c2⟩
    · exact .inl c'
    · exact .inr ⟨c1, Nat.lt_succ_of_lt c2⟩
def Post (F : Fld) (n r m : Nat) (w : Int) (y0 z : List Int) : Prop := z.length = n ∧ ∀ x, x < n → rd z (x : Int) = stF (Wr n r m w) r m (fun x => rd y0 (x : Int)) x % F.p
theorem Stage.all_l1 (S : Stage F T n r m w) (hl : y0.length = n) (h0 : ∀ x ∈ y0, U x) {b : Nat} (hb : b * (r * m) + r * m ≤ n) (H : ∀ y, InvC F n r m w y0 b m y → ∃ z, Ev (fun κ => mixed_stage_all.l0 κ [F] T (r : Int) (m : Int) y ((b * (r * m) + r * m : Nat) : Int)) z ∧ Post F n r m w y0 z) (d : Nat) : ∀ (k : Nat) (y : List Int), k + d = m → InvC F n r m w y0 b k y →
    ∃ z, Ev (fun κ => mixed_stage_all.l1 κ [F] T (r : Int) (m : Int) y ((b * (r * m) : Nat) : Int) (k : Int)) z ∧ Post F n r m w y0 z := by
  have htop := S.top
  have hbn : b * (r * m) + r * m ≤ 1000000000000 := Nat.le_trans hb (Nat.le_trans htop (by decide))
  have w1 : wrap64 ((r : Int) * (m : Int)) = ((r * m : Nat) : Int) := by rw [← Int.natCast_mul]; exact w64n (Nat.le_trans S.rm (Nat.le_trans htop (by decide)))
  have w2 : wrap64 (((b * (r * m) : Nat) : Int) + ((r * m : Nat) : Int)) = ((b * (r * m) + r * m : Nat) : Int) := by rw [← Int.natCast_add]; exact w64n hbn
  have hm := S.m_le
  induction d with
  | zero =>
    intro k y hk hI
    obtain rfl : k = m := by rw [← hk]; rfl
    obtain ⟨z, E, hz⟩ := H y hI
    exact ⟨z, stepE ⟨_, fun κ => by simp only [mixed_stage_all.l1]; rw [if_neg (Int.lt_irrefl _), w1, w2], E⟩, hz⟩
  | succ d ih =>
    intro k y hk hI
    have hkm : k < m := by clear hb hbn; omega
    have p0 : (k : Int) < (m : Int) := Int.ofNat_lt.2 hkm
    have ws : wrap64 ((k : Int) + 1) = ((k + 1 : Nat) : Int) := wrap_succ (by clear hb hbn; omega)
    have c3 : (0 : Int) ≤ ((b * (r * m) : Nat) : Int) ∧ ((b * (r * m) : Nat) : Int) < ((b * (r * m) + r * m : Nat) : Int) ∧ ((b * (r * m) + r * m : Nat) : Int) ≤ (y.length : Int) := ⟨Int.natCast_nonneg _, Int.ofNat_lt.2 (Nat.lt_add_of_pos_right S.rm1), by rw [hI.len]; exact Int.ofNat_le.2 hb⟩
    obtain ⟨z, E, hz⟩ := ih (k + 1) _ (by rw [← hk, Nat.add_assoc, Nat.add_comm 1 d]) (hI.col S hkm hb)
    refine ⟨z, stepE ⟨_, fun κ => by simp only [mixed_stage_all.l1]; rw [if_pos p0, w1, w2, if_pos c3, ws, Int.toNat_natCast, Int.toNat_natCast, Nat.add_sub_cancel_left], ?_⟩, hz⟩
    exact Ev.bind (S.one_ev hI.len (hI.u S hl h0) hb hkm) E
theorem Stage.all_l0 (S : Stage F T n r m w) (hl : y0.length = n) (h0 : ∀ x ∈ y0, U x) {B : Nat} (hB : B * (r * m) = n) (d : Nat) : ∀ (b : Nat) (y : List Int), b + d = B → InvC F n r m w y0 b 0 y →
    ∃ z, Ev (fun κ => mixed_stage_all.l0 κ [F] T (r : Int) (m : Int) y ((b * (r * m) : Nat) : Int)) z ∧ Post F n r m w y0 z := by
  induction d with
  | zero =>
    intro b y hb hI
    obtain rfl : b = B := by rw [← hb]; rfl
    have q : ¬ ((b * (r * m) : Nat) : Int) < (y.length : Int) := by rw [hI.len, hB]; exact Int.lt_irrefl _
    refine ⟨y, stepE ⟨_, fun κ => by simp only [mixed_stage_all.l0]; rw [if_neg q], Ev.now _⟩, hI.len, fun x hx => hI.new x hx (.inl ?_)⟩
    exact Nat.div_lt_of_lt_mul (by rw [Nat.mul_comm, hB]; exact hx)
  | succ d ih =>
    intro b y hb hI
    have hbB : b + 1 ≤ B := by rw [← hb]; exact Nat.add_le_add_left (Nat.succ_le_succ (Nat.zero_le d)) b
    have hbn : b * (r * m) + r * m ≤ n := by
      rw [← Nat.succ_mul, ← hB]
      exact Nat.mul_le_mul_right _ hbB
    have q : ((b * (r * m) : Nat) : Int) < (y.length : Int) := by rw [hI.len]; exact Int.ofNat_lt.2 (Nat.lt_of_lt_of_le (Nat.lt_add_of_pos_right S.rm1) hbn)
    obtain ⟨z, E, hz⟩ := S.all_l1 hl h0 hbn (fun y' hy' => by
      have := ih (b + 1) y' (by rw [← hb, Nat.add_assoc, Nat.add_comm 1 d]) (hy'.next S)
      rw [Nat.succ_mul] at this
      exact this) m 0 y (Nat.zero_add _) hI
    refine ⟨z, stepE ⟨_, fun κ => by simp only [mixed_stage_all.l0]; rw [if_pos q], ?_⟩, hz⟩
    exact E
theorem Stage.all_ev (S : Stage F T n r m w) (hl : y0.length = n) (h0 : ∀ x ∈ y0, U x) : ∃ z, Ev (fun κ => mixed_stage_all.f κ [F] T (r : Int) (m : Int) y0) z ∧ Post F n r m w y0 z := by
  obtain ⟨B, hB⟩ := S.dvd
  have hI : InvC F n r m w y0 0 0 y0 := ⟨hl, fun x hx c => by rcases c with c | ⟨_, c⟩ <;> exact absurd c (Nat.not_lt_zero _), fun x hx c => rfl⟩
  obtain ⟨z, E, hz⟩ := S.all_l0 hl h0 (B := B) (by rw [hB, Nat.mul_comm]) B 0 y0 (Nat.zero_add _) hI
  rw [Nat.zero_mul] at E
  exact ⟨z, Ev.congr (fun κ => rfl) E, hz⟩
end
def Mid (F : Fld) (n : Nat) (w : Int) (g : Nat → Int) (suf : List Nat) (y : List Int) : Prop := y.length = n ∧ ∀ x, x < n → rd y (x : Int) = runA suf (w ^ (n / prodN suf)) (fun t => g (x / prodN suf * prodN suf + t)) (x % prodN suf) % F.p
theorem mid_step {F : Fld} {T : List Int} {n r : Nat} {w : Int} {g : Nat → Int} {suf : List Nat} {y z : List Int} (S : Stage F T n r (prodN suf) w) (hM : Mid F n w g suf y) (hz : Post F n r (prodN suf) w y z) : Mid F n w g (r :: suf) z := by
  obtain ⟨c, hc⟩ := S.dvd
  have hm1 := S.m1
  have hr1 : 1 ≤ r := Nat.le_trans (by decide) S.r2.1
  have hn : n = r * prodN suf * c := hc
  have d1 : n / (r * prodN suf) = c := by rw [hn]; exact Nat.mul_div_cancel_left _ S.rm1
  have d2 : n / prodN suf = c * r := by rw [hn, show r * prodN suf * c = prodN suf * (c * r) by rw [Nat.mul_comm r, Nat.mul_assoc, Nat.mul_comm r c]]; exact Nat.mul_div_cancel_left _ hm1
  refine ⟨hz.1, fun x hx => ?_⟩
  rw [hz.2 x hx]
  show stF (Wr n r (prodN suf) w) r (prodN suf) (fun x => rd y (x : Int)) x % F.p = sumN (fun q => (w ^ (n / (r * prodN suf))) ^ (q * (x % (r * prodN suf))) * runA suf ((w ^ (n / (r * prodN suf))) ^ r) (fun t => g (x / (r * prodN suf) * (r * prodN suf) + (q * prodN suf + t))) (x % (r * prodN suf) % prodN suf)) r % F.p
  unfold stF Wr
  refine sumN_mod fun q hq => mul_cong rfl ?_
  obtain ⟨f1, f2, f3⟩ := at_form (x := x) hm1 hr1
  have hj : x % (r * prodN suf) % prodN suf < prodN suf := Nat.mod_lt _ hm1
  obtain ⟨e1, e2, e3, e4⟩ := at_mod (b := x / (r * prodN suf)) hq hj
  have hX : x / (r * prodN suf) * (r * prodN suf) + (q * prodN suf + x % (r * prodN suf) % prodN suf) < n := by
    have h1 : x / (r * prodN suf) < c := Nat.div_lt_of_lt_mul (by rw [← hn]; exact hx)
    have h2 : (x / (r * prodN suf) + 1) * (r * prodN suf) ≤ c * (r * prodN suf) := Nat.mul_le_mul_right _ h1
    rw [Nat.succ_mul, Nat.mul_comm c, ← hn] at h2
    exact Nat.lt_of_lt_of_le (Nat.add_lt_add_left e4 _) h2
  show rd y _ % F.p = _
  rw [hM.2 _ hX, Int.emod_emod, at_m hj, d2, d1, ← Int.pow_mul]
  have ed : (x / (r * prodN suf) * (r * prodN suf) + (q * prodN suf + x % (r * prodN suf) % prodN suf)) / prodN suf = x / (r * prodN suf) * r + q := by
    rw [← Nat.mul_assoc, ← Nat.add_assoc, ← Nat.add_mul, Nat.mul_comm _ (prodN suf), Nat.mul_add_div hm1, Nat.div_eq_of_lt hj, Nat.add_zero]
  rw [ed]
  have ef : (fun t => g ((x / (r * prodN suf) * r + q) * prodN suf + t)) = fun t => g (x / (r * prodN suf) * (r * prodN suf) + (q * prodN suf + t)) := by
    funext t
    rw [Nat.add_mul, Nat.mul_assoc, Nat.add_assoc]
  rw [ef]
theorem mrun_l0 {F : Fld} (hg : GoodFld F) {rs : List Nat} {n : Nat} (hR : Rads rs n) {T : List Int} (hT : T.length = n) {w : Int} (tab : ∀ j, j < n → rd T (j : Int) = mIn F.p (w ^ j % F.p)) (round : ∀ a, w ^ a % F.p = w ^ (a % n) % F.p) {g : Nat → Int} {inv : Bool} (d : Nat) : ∀ (i : Nat) (y : List Int), i = d → i ≤ rs.length → Mid F n w g (rs.drop i) y → (∀ x ∈ y, U x) →
    ∃ z, (∀ out, Ev (fun k => if inv = true then (dft_Scale.f k [F] z).bind fun t => some (t, 0) else some (z, 0)) out → Ev (fun k => mixed_Run.l0 k [F] inv (iL rs) T y ((prodN (rs.drop i) : Nat) : Int) ((i : Int) - 1)) out) ∧ Mid F n w g rs z ∧ ∀ x ∈ z, U x := by
  have ll := iL_len rs
  have hlo := hg.lo
  induction d with
  | zero =>
    intro i y hi hl hM hu
    subst hi
    refine ⟨y, fun out E => ?_, hM, hu⟩
    exact stepE ⟨_, fun k => by simp only [mixed_Run.l0]; rw [if_neg (show ¬ ((0 : Nat) : Int) - 1 ≥ 0 by omega)], E⟩
  | succ d ih =>
    intro i y hi hl hM hu
    subst hi
    have hlt : d < rs.length := hl
    have hd : rs.drop d = rs[d] :: rs.drop (d + 1) := List.drop_eq_getElem_cons hlt
    have hmem : rs[d] ∈ rs := List.getElem_mem hlt
    have hr := hR.two _ hmem
    have hpos := prodN_pos (rs.drop (d + 1)) fun x hx => hR.two x (List.mem_of_mem_drop hx)
    have hdv : ∀ k, k ≤ rs.length → prodN (rs.drop k) ∣ n := fun k => by
      induction k with
      | zero => intro _; rw [List.drop_zero, hR.prod]; exact Nat.dvd_refl _
      | succ k ihk =>
        intro hk
        have h1 := ihk (Nat.le_of_succ_le hk)
        rw [List.drop_eq_getElem_cons hk] at h1
        exact Nat.dvd_trans (Nat.dvd_mul_left _ _) h1
    have hdv' : rs[d] * prodN (rs.drop (d + 1)) ∣ n := by
      have h1 := hdv d (Nat.le_of_lt hlt)
      rw [hd] at h1
      exact h1
    have S : Stage F T n rs[d] (prodN (rs.drop (d + 1))) w := ⟨hg, hT, tab, round, hr, hpos, hdv', hR.pos, hR.top⟩
    obtain ⟨z1, E1, hz1⟩ := S.all_ev hM.1 hu
    have hM1 : Mid F n w g (rs.drop d) z1 := by rw [hd]; exact mid_step S hM hz1
    have hu1 : ∀ x ∈ z1, U x := fun x hx => by
      obtain ⟨j, hj, rfl⟩ := List.mem_iff_getElem.1 hx
      rw [← rd_at hj, hz1.2 j (by rw [← hz1.1]; exact hj)]
      exact hg.uE _
    obtain ⟨z, E, hz, huz⟩ := ih d z1 rfl (Nat.le_of_lt hlt) hM1 hu1
    refine ⟨z, fun out hout => ?_, hz, huz⟩
    have hrd := iL_rd hlt
    have p1 : ((d + 1 : Nat) : Int) - 1 = (d : Int) := by omega
    have p2 : (d : Int) ≥ 0 := by omega
    have p3 : (d : Int) < ((iL rs).length : Int) := by rw [ll]; exact Int.ofNat_lt.2 hlt
    have w1 : wrap64 (((prodN (rs.drop (d + 1)) : Nat) : Int) * ((rs[d] : Nat) : Int)) = ((prodN (rs.drop d) : Nat) : Int) := by
      rw [← Int.natCast_mul, hd]
      show wrap64 ((prodN (rs.drop (d + 1)) * rs[d] : Nat) : Int) = ((rs[d] * prodN (rs.drop (d + 1)) : Nat) : Int)
      rw [Nat.mul_comm]
      exact w64n (Nat.le_trans (Nat.le_of_dvd hR.pos hdv') (Nat.le_trans hR.top (by decide)))
    have hfew := hR.few
    have w2 : wrap64 ((d : Int) - 1) = (d : Int) - 1 := w64_id _ (by omega) (by omega)
    refine stepE ⟨_, fun k => by simp only [mixed_Run.l0]; rw [p1, if_pos p2, if_pos p2, if_pos p3, hrd, w1, w2], ?_⟩
    exact Ev.bind E1 (E out hout)
theorem mrun_ev {F : Fld} (hg : GoodFld F) {l : List Int} (h : FitL F l) {rs : List Nat} (hR : Rads rs l.length) (hrad : Ev (fun k => mixed_Radices.f k (l.length : Int)) (iL rs, true)) (inv : Bool) : Ev (fun k => mixed_Run.f k [F] l inv) (runL F l inv, 0) := by
  have h1 := h.pos
  have h2 := h.top
  have C := check_at (F := F) (most := 1024) (len_I (l := l) (by omega))
  rw [chk_of (by omega) (by omega) h.div] at C
  have G := good_ev (F := F) (l := l) (by omega)
  rw [h.all] at G
  have R := roots hg h1 h.div inv
  have Lf := lifted_ev hg (n := (l.length : Int)) (by omega) (by omega) h.div inv
  rw [Int.toNat_natCast] at Lf
  have lt : ((powL F.p (trootI F l.length inv) l.length).map (mIn F.p)).length = l.length := by rw [List.length_map, powL_len]
  have tab : ∀ j, j < l.length → rd ((powL F.p (trootI F l.length inv) l.length).map (mIn F.p)) (j : Int) = mIn F.p (trootI F l.length inv ^ j % F.p) := fun j hj => by
    rw [rd_at (by omega), List.getElem_map]
    congr 1
    have := rd_powL (p := F.p) (w := trootI F l.length inv) hj
    rw [rd_at (by rw [powL_len]; omega)] at this
    exact this
  obtain ⟨y, O, y1, y2, y3⟩ := order_ev hR rfl
  have hlo := hg.lo
  have resy : ∀ x ∈ y, 0 ≤ x ∧ x < F.p := fun x hx => by
    rcases y2 x hx with h' | h'
    · exact h.res x h'
    · rw [h']; omega
  have uy : ∀ x ∈ y, U x := fun x hx => by
    have := resy x hx
    have := hg.hi
    unfold U; omega
  have M0 : Mid F l.length (trootI F l.length inv) (fun t => rd y (t : Int)) (rs.drop rs.length) y := by
    rw [List.drop_eq_nil_of_le (Nat.le_refl _)]
    refine ⟨y1, fun x hx => ?_⟩
    show rd y (x : Int) = rd y ((x / 1 * 1 + 0 : Nat) : Int) % F.p
    rw [Nat.div_one, Nat.mul_one, Nat.add_zero]
    have := resy _ (rd_mem (l := y) (i := x) (by rw [y1]; exact hx))
    exact (Int.emod_eq_of_lt this.1 this.2).symm
  obtain ⟨z, E, hz, uz⟩ := mrun_l0 hg hR lt tab R.expo (inv := inv) rs.length rs.length y rfl (Nat.le_refl _) M0 uy
  have zl : z.length = l.length := hz.1
  have zv : ∀ x, x < l.length → rd z (x : Int) = dftA (trootI F l.length inv) (fun t => rd l (t : Int)) l.length x % F.p := fun x hx => by
    have hw1 : trootI F l.length inv ^ prodN rs % F.p = 1 := by rw [hR.prod]; exact (R.w_ord _).2 (Nat.dvd_refl _)
    have := run_dft hg.one (rs := rs) (f := fun t => rd l (t : Int)) (g := fun t => rd y (t : Int)) hw1 (fun t ht => y3 t (by rw [← hR.prod]; exact ht)) x
    rw [hR.prod] at this
    rw [hz.2 x hx, hR.prod, Nat.div_self h1, Nat.div_eq_of_lt hx, Nat.mod_eq_of_lt hx, Int.pow_succ, Int.pow_zero, Int.one_mul, ← this]
    congr 2
    funext t
    rw [Nat.zero_mul, Nat.zero_add]
  have E' := E (runL F l inv, 0) (by
    cases inv with
    | false =>
      refine evN Bool.false_ne_true (evR (Ev.now _) ?_)
      congr 1
      refine list_ext (by rw [zl, runL_len]) fun i hi => ?_
      have hi' : i < l.length := by rw [runL_len] at hi; exact hi
      rw [runL_at hi', zv i hi', show cO F l.length false = 1 from rfl, Int.one_mul]
    | true =>
      refine evP rfl (Ev.bind (scale_ev hg (by omega) uz) (evR (Ev.now _) ?_))
      congr 1
      refine list_ext (by rw [List.length_map, zl, runL_len]) fun i hi => ?_
      have hi' : i < l.length := by rw [runL_len] at hi; exact hi
      rw [runL_at hi', rd_at (by rw [List.length_map, zl]; exact hi'), List.getElem_map, ← rd_at (by rw [zl]; exact hi'), zv i hi', zl]
      show invF F.p l.length * (dftA (trootI F l.length true) (fun t => rd l (t : Int)) l.length i % F.p) % F.p = invF F.p l.length * dftA (trootI F l.length true) (fun t => rd l (t : Int)) l.length i % F.p
      rw [emod_mul_r])
  have hfew := hR.few
  have w1 : wrap64 (((iL rs).length : Int) - 1) = ((rs.length : Nat) : Int) - 1 := by rw [iL_len]; exact w64_id _ (by omega) (by omega)
  rw [List.drop_eq_nil_of_le (Nat.le_refl _)] at E'
  rw [← w1] at E'
  exact Ev.congr (fun k => rfl) (evB C (evP rfl (Ev.bind hrad (evP rfl (Ev.bind G (evP rfl (Ev.bind Lf (Ev.bind O E'))))))))
theorem mrun_nil (l : List Int) (inv : Bool) : Ev (fun k => mixed_Run.f k [] l inv) ([], 2) := Ev.congr (fun k => rfl) (evB (check_nil _ _) (evN (by decide) (Ev.now _)))
theorem mrun_chk {F : Fld} {l : List Int} (hn : l.length ≤ 1000000) (inv : Bool) (h : chk F.p l.length 1024 ≠ 0) : Ev (fun k => mixed_Run.f k [F] l inv) ([], chk F.p l.length 1024) :=
  Ev.congr (fun k => rfl) (evB (check_at (len_I hn)) (evN h (Ev.now _)))
theorem mrun_kind {F : Fld} {l : List Int} (hn : l.length ≤ 1000000) (inv : Bool) (h : chk F.p l.length 1024 = 0) {L : List Int} (hR : Ev (fun k => mixed_Radices.f k (l.length : Int)) (L, false)) : Ev (fun k => mixed_Run.f k [F] l inv) ([], 11) := by
  have C := check_at (F := F) (most := 1024) (len_I hn)
  rw [h] at C
  exact Ev.congr (fun k => rfl) (evB C (evP rfl (Ev.bind hR (evN Bool.false_ne_true (Ev.now _)))))
theorem mrun_bad {F : Fld} {l : List Int} (hn : l.length ≤ 1000000) (inv : Bool) (h : chk F.p l.length 1024 = 0) {L : List Int} (hR : Ev (fun k => mixed_Radices.f k (l.length : Int)) (L, true)) (hb : allB F.p l = false) : Ev (fun k => mixed_Run.f k [F] l inv) ([], 9) := by
  have C := check_at (F := F) (most := 1024) (len_I hn)
  rw [h] at C
  have G := good_ev (F := F) hn
  rw [hb] at G
  exact Ev.congr (fun k => rfl) (evB C (evP rfl (Ev.bind hR (evP rfl (Ev.bind G (evN Bool.false_ne_true (Ev.now _)))))))
end Go.Proofs.YtndkmnjbjlfeaaaGreat.D14
end
section
namespace Go.Proofs.YtndkmnjbjlfeaaaGreat.XM
open Go.RowKit Go.Proofs.YtndkmnjbjlfeaaaGreat.Given Go.Proofs.YtndkmnjbjlfeaaaGreat.Row05 Go.Proofs.YtndkmnjbjlfeaaaGreat.XS Go.Proofs.YtndkmnjbjlfeaaaGreat.XT Go.Proofs.YtndkmnjbjlfeaaaGreat.XR Go.Proofs.YtndkmnjbjlfeaaaGreat.F06 Go.Proofs.YtndkmnjbjlfeaaaGreat.XK Go.Proofs.YtndkmnjbjlfeaaaGreat.XW Go.Proofs.YtndkmnjbjlfeaaaGreat.XG Go.Proofs.YtndkmnjbjlfeaaaGreatW.PrintWords Go.Proofs.YtndkmnjbjlfeaaaGreatW.PrintLast Go.Proofs.YtndkmnjbjlfeaaaGreatW.PrintMore
attribute [local go_sem] max2_int min2_int max_two min_two max_three min_three max_four min_four   -- for this text's walks alone
set_option linter.unusedVariables false
set_option linter.unusedSimpArgs false
end Go.Proofs.YtndkmnjbjlfeaaaGreat.XM
end
section
namespace Go.Proofs.YtndkmnjbjlfeaaaGreat.XM
open Go.RowKit Go.Proofs.YtndkmnjbjlfeaaaGreat.Given Go.Proofs.YtndkmnjbjlfeaaaGreat.Row05 Go.Proofs.YtndkmnjbjlfeaaaGreat.XS Go.Proofs.YtndkmnjbjlfeaaaGreat.XT Go.Proofs.YtndkmnjbjlfeaaaGreat.XR Go.Proofs.YtndkmnjbjlfeaaaGreat.F06 Go.Proofs.YtndkmnjbjlfeaaaGreat.XK Go.Proofs.YtndkmnjbjlfeaaaGreat.XW Go.Proofs.YtndkmnjbjlfeaaaGreat.XG Go.Proofs.YtndkmnjbjlfeaaaGreatW.PrintWords Go.Proofs.YtndkmnjbjlfeaaaGreatW.PrintLast Go.Proofs.YtndkmnjbjlfeaaaGreatW.PrintMore
attribute [local go_sem] max2_int min2_int max_two min_two max_three min_three max_four min_four   -- for this text's walks alone
set_option linter.unusedVariables false
set_option linter.unusedSimpArgs false
end Go.Proofs.YtndkmnjbjlfeaaaGreat.XM
end
