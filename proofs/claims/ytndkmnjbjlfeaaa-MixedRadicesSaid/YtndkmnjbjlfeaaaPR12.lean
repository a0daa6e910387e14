/- Parts of this claim's texts, packed by wip/tools/prune.py: what the proof does not reach is left out. -/
import Derived.Test.YtndkmnjbjlfeaaaPR11
section
namespace Go.Proofs.Ytndkmnjbjlfeaaa.XM
open Go.RowKit Go.Proofs.Ytndkmnjbjlfeaaa.Given Go.Proofs.Ytndkmnjbjlfeaaa.Row05 Go.Proofs.Ytndkmnjbjlfeaaa.XS Go.Proofs.Ytndkmnjbjlfeaaa.XT Go.Proofs.Ytndkmnjbjlfeaaa.XR Go.Proofs.Ytndkmnjbjlfeaaa.F06 Go.Proofs.Ytndkmnjbjlfeaaa.XK Go.Proofs.Ytndkmnjbjlfeaaa.XW Go.Proofs.Ytndkmnjbjlfeaaa.XG Go.Proofs.YtndkmnjbjlfeaaaW.PrintWords Go.Proofs.YtndkmnjbjlfeaaaW.PrintLast Go.Proofs.YtndkmnjbjlfeaaaW.PrintMore
attribute [local go_sem] max2_int min2_int max_two min_two max_three min_three max_four min_four   -- for this text's walks alone
set_option linter.unusedVariables false
set_option linter.unusedSimpArgs false
noncomputable def mixed_Run.l0 : Nat → List (Fld) → Bool → List Int → List Int → List Int → Int → Int → Option (List Int × Int)
 | 0, _, _, _, _, _, _, _ => none
 | k + 1, x0, x2, x9, x11, x13, x15, x16 => if x16 ≥ 0 then (if 0 ≤ x16 then (if x16 < (x9.length : Int) then ((mixed_stage_all.f k x0 x11 (rd x9 x16) x15 x13).bind fun t154 => (mixed_Run.l0 k x0 x2 x9 x11 t154 (wrap64 (x15 * (rd x9 x16))) (wrap64 (x16 - 1)))) else (none)) else (none)) else (if x2 = true then ((dft_Scale.f k x0 x13).bind fun t156 => (some (t156, 0))) else (some (x13, 0)))
noncomputable def mixed_Run.f (k : Nat) (l0 : List (Fld)) (l1 : List Int) (a2 : Bool) : Option (List Int × Int) := (dft_Check.f l0 (l1.length : Int) 1024).bind fun t139 => (if t139 = 0 then ((mixed_Radices.f k (l1.length : Int)).bind fun bt140 => (if bt140.2 = true then ((dft_Good.f k l0 l1).bind fun t144 => (if t144 = true then ((twiddle_Lifted.f k l0 (l1.length : Int) a2).bind fun bt145 => ((digits_Order.f k l1 bt140.1).bind fun bt149 => (mixed_Run.l0 k l0 a2 bt140.1 bt145.1 bt149.1 1 (wrap64 ((bt140.1.length : Int) - 1))))) else (some (([] : List Int), 9)))) else (some (([] : List Int), 11)))) else (some (([] : List Int), t139)))
theorem mixed_Run.mono_l : ∀ k, (∀ y0 y1 y2 y3 y4 y5 y6, LeO (mixed_Run.l0 k y0 y1 y2 y3 y4 y5 y6) (mixed_Run.l0 (k + 1) y0 y1 y2 y3 y4 y5 y6))
 | 0 => fun _ _ _ _ _ _ _ r h => by simp [mixed_Run.l0] at h
 | k + 1 => by
  have ih0 := mixed_Run.mono_l k
  ·intro y0 y1 y2 y3 y4 y5 y6
   unfold mixed_Run.l0
   repeat' first
   | (with_reducible exact ih0 _ _ _ _ _ _ _)
   | (with_reducible exact dft_Good.mono _ _ _)
   | (with_reducible exact dft_Scale.mono _ _ _)
   | (with_reducible exact digits_Order.mono _ _ _)
   | (with_reducible exact mixed_Radices.mono _ _)
   | (with_reducible exact mixed_stage_all.mono _ _ _ _ _ _)
   | (with_reducible exact twiddle_Lifted.mono _ _ _ _)
   | (with_reducible exact LeO.refl _)
   | (with_reducible exact LeO.none _)
   | (with_reducible refine LeO.ite ?_ ?_)
   | (with_reducible refine LeO.bind ?_ (fun _ => ?_))
   | exact ih0 _ _ _ _ _ _ _
   | exact dft_Good.mono _ _ _
   | exact dft_Scale.mono _ _ _
   | exact digits_Order.mono _ _ _
   | exact mixed_Radices.mono _ _
   | exact mixed_stage_all.mono _ _ _ _ _ _
   | exact twiddle_Lifted.mono _ _ _ _
   | exact LeO.none _
   | refine LeO.ite ?_ ?_
   | refine LeO.bind ?_ (fun _ => ?_)
theorem mixed_Run.mono : ∀ a0 a1 a2 k, LeO (mixed_Run.f k a0 a1 a2) (mixed_Run.f (k + 1) a0 a1 a2) := by
 intro a0 a1 a2 k
 have ih0 := mixed_Run.mono_l k
 unfold mixed_Run.f
 repeat' first
   | (with_reducible exact ih0 _ _ _ _ _ _ _)
   | (with_reducible exact dft_Good.mono _ _ _)
   | (with_reducible exact dft_Scale.mono _ _ _)
   | (with_reducible exact digits_Order.mono _ _ _)
   | (with_reducible exact mixed_Radices.mono _ _)
   | (with_reducible exact mixed_stage_all.mono _ _ _ _ _ _)
   | (with_reducible exact twiddle_Lifted.mono _ _ _ _)
   | (with_reducible exact LeO.refl _)
   | (with_reducible exact LeO.none _)
   | (with_reducible refine LeO.ite ?_ ?_)
   | (with_reducible refine LeO.bind ?_ (fun _ => ?_))
   | exact ih0 _ _ _ _ _ _ _
   | exact dft_Good.mono _ _ _
   | exact dft_Scale.mono _ _ _
   | exact digits_Order.mono _ _ _
   | exact mixed_Radices.mono _ _
   | exact mixed_stage_all.mono _ _ _ _ _ _
   | exact twiddle_Lifted.mono _ _ _ _
   | exact LeO.none _
   | refine LeO.ite ?_ ?_
   | refine LeO.bind ?_ (fun _ => ?_)
set_option maxHeartbeats 8000000 in
set_option maxRecDepth 100000 in
theorem mixed_Run.calls (k : Nat) (A0 : Option Addr) (c0 : Nat) (l0 : List (Fld)) (A1 : Option Addr) (c1 : Nat) (l1 : List Int) (a2 : Bool) (r1 : List Int) (r2 : Int) (w : World) (hr0 : Kd.C kFld w A0 l0.length l0) (hc0 : l0.length ≤ c0) (hr1 : Kd.C (Kd.int .u64) w A1 l1.length l1) (hc1 : l1.length ≤ c1) (h : mixed_Run.f k l0 l1 a2 = some (r1, r2)) :
  Calls Try.prog 8 #[toPtr (.slice A0 l0.length c0), .slice A1 l1.length c1, .bool a2] w fun e w' => ∃ v0_ : Value, e = .returned (.tuple #[v0_, .int .i64 r2]) ∧ Kd.R (Kd.int .u64) 31 w' w.heap.size (fun _ => True) v0_ r1 ∧ Below w.heap.size w w' := by
 have hu46 := Try.underlying46
 obtain ⟨oT_HR0, hT_HR0⟩ : ∃ o : Option Addr, toPtr (.slice A0 l0.length c0) = .pointer o := (Nat.eq_zero_or_pos l0.length).elim (fun z_ => ⟨_, pf_none A0 c0 z_⟩) (fun z_ => ⟨_, (pf_some A0 c0 (Nat.ne_of_gt z_)).choose_spec⟩)
 rw [hT_HR0]
 have HR0 := Aside0.mk hr0
 have HC0 := Aside0.mk hc0
 clear hr0 hc0
 have HR1 := Aside0.mk hr1
 have HC1 := Aside0.mk hc1
 clear hr1 hc1
 have HB := Aside0.mk (Below.refl w.heap.size w)
 have H : ((dft_Check.f l0 (l1.length : Int) 1024).bind fun t139 => (if t139 = 0 then ((mixed_Radices.f k (l1.length : Int)).bind fun bt140 => (if bt140.2 = true then ((dft_Good.f k l0 l1).bind fun t144 => (if t144 = true then ((twiddle_Lifted.f k l0 (l1.length : Int) a2).bind fun bt145 => ((digits_Order.f k l1 bt140.1).bind fun bt149 => (mixed_Run.l0 k l0 a2 bt140.1 bt145.1 bt149.1 1 (wrap64 ((bt140.1.length : Int) - 1))))) else (some (([] : List Int), 9)))) else (some (([] : List Int), 11)))) else (some (([] : List Int), t139)))) = some (r1, r2) := h
 clear h
 replace H := Option.bind_eq_some_iff.mp H
 obtain ⟨t139, A40, H⟩ := H
 replace H : (if t139 = 0 then ((mixed_Radices.f k (l1.length : Int)).bind fun bt140 => (if bt140.2 = true then ((dft_Good.f k l0 l1).bind fun t144 => (if t144 = true then ((twiddle_Lifted.f k l0 (l1.length : Int) a2).bind fun bt145 => ((digits_Order.f k l1 bt140.1).bind fun bt149 => (mixed_Run.l0 k l0 a2 bt140.1 bt145.1 bt149.1 1 (wrap64 ((bt140.1.length : Int) - 1))))) else (some (([] : List Int), 9)))) else (some (([] : List Int), 11)))) else (some (([] : List Int), t139))) = some (r1, r2) := H
 have A4 := Aside0.mk A40
 clear A40
 by_cases c5 : t139 = 0
 ·rw [if_pos c5] at H
  have c5b0 : (t139 == 0) = true := beq_iff_eq.mpr c5
  have c5b1 : (t139 != 0) = false := bne_eq_false_iff_eq.mpr c5
  clear c5
  replace H := Option.bind_eq_some_iff.mp H
  obtain ⟨⟨t140, t141⟩, A60, H⟩ := H
  replace H : (if t141 = true then ((dft_Good.f k l0 l1).bind fun t144 => (if t144 = true then ((twiddle_Lifted.f k l0 (l1.length : Int) a2).bind fun bt145 => ((digits_Order.f k l1 t140).bind fun bt149 => (mixed_Run.l0 k l0 a2 t140 bt145.1 bt149.1 1 (wrap64 ((t140.length : Int) - 1))))) else (some (([] : List Int), 9)))) else (some (([] : List Int), 11))) = some (r1, r2) := H
  have A6 := Aside0.mk A60
  clear A60
  by_cases c7 : t141 = true
  ·subst c7
   have H1 : ((dft_Good.f k l0 l1).bind fun t144 => (if t144 = true then ((twiddle_Lifted.f k l0 (l1.length : Int) a2).bind fun bt145 => ((digits_Order.f k l1 t140).bind fun bt149 => (mixed_Run.l0 k l0 a2 t140 bt145.1 bt149.1 1 (wrap64 ((t140.length : Int) - 1))))) else (some (([] : List Int), 9)))) = some (r1, r2) := by rw [if_pos rfl] at H <;> exact H
   clear H
   have H := H1
   clear H1
   replace H := Option.bind_eq_some_iff.mp H
   obtain ⟨t144, A80, H⟩ := H
   replace H : (if t144 = true then ((twiddle_Lifted.f k l0 (l1.length : Int) a2).bind fun bt145 => ((digits_Order.f k l1 t140).bind fun bt149 => (mixed_Run.l0 k l0 a2 t140 bt145.1 bt149.1 1 (wrap64 ((t140.length : Int) - 1))))) else (some (([] : List Int), 9))) = some (r1, r2) := H
   have A8 := Aside0.mk A80
   clear A80
   by_cases c9 : t144 = true
   ·subst c9
    have H1 : ((twiddle_Lifted.f k l0 (l1.length : Int) a2).bind fun bt145 => ((digits_Order.f k l1 t140).bind fun bt149 => (mixed_Run.l0 k l0 a2 t140 bt145.1 bt149.1 1 (wrap64 ((t140.length : Int) - 1))))) = some (r1, r2) := by rw [if_pos rfl] at H <;> exact H
    clear H
    have H := H1
    clear H1
    replace H := Option.bind_eq_some_iff.mp H
    obtain ⟨⟨t145, t146⟩, A100, H⟩ := H
    replace H : ((digits_Order.f k l1 t140).bind fun bt149 => (mixed_Run.l0 k l0 a2 t140 t145 bt149.1 1 (wrap64 ((t140.length : Int) - 1)))) = some (r1, r2) := H
    have A10 := Aside0.mk A100
    clear A100
    replace H := Option.bind_eq_some_iff.mp H
    obtain ⟨⟨t149, t150⟩, A110, H⟩ := H
    replace H : (mixed_Run.l0 k l0 a2 t140 t145 t149 1 (wrap64 ((t140.length : Int) - 1))) = some (r1, r2) := H
    have A11 := Aside0.mk A110
    clear A110
    have H' := Aside0.mk H
    clear H
    go_enter Try.func8, Try.ntmps8
    go_wp2_with (first | ((with_reducible refine gate_callee (f := 12) rfl ?_); refine goesL_ (some 20) rfl rfl Try.func12 (by kernel_rfl) rfl #[toPtr (.slice A0 l0.length c0), .int .i64 (l1.length : Int), .int .i64 1024] rfl (by (try simp only [List.map_toArray, List.map_cons, List.map_nil]); first | done | (rw [hT_HR0] <;> rfl) | rfl | (simp only [List.length_drop, List.length_take]; rfl)) ?_; (try rw [← hT_HR0]); (with_reducible refine (dft_Check.calls _ _ l0 (l1.length : Int) 1024 t139 _ ?side1 ?side2 A4.out).mono ?_); (case side1 => repeat (first | exact HR0.out | (with_reducible refine Kd.C_alloc ?_ _) | (with_reducible refine Kd.C_drewN ?_ _) | (with_reducible refine Kd.C_drew ?_))); (case side2 => exact HC0.out); rintro e w' ⟨rfl, ⟨nd, rfl⟩⟩; refine ⟨_, rfl, ?_⟩) | ((with_reducible refine gate_callee (f := 5) rfl ?_); refine goesL_ (some 27) rfl rfl Try.func5 (by kernel_rfl) rfl #[.int .i64 (l1.length : Int)] rfl (by (try simp only [List.map_toArray, List.map_cons, List.map_nil]); first | done | rfl | (simp only [List.length_drop, List.length_take]; rfl)) ?_; (with_reducible refine (mixed_Radices.calls k (l1.length : Int) t140 true _ A6.out).mono ?_); rintro e w12 ⟨v142, rfl, ho0, hb⟩; refine ⟨_, rfl, ?_⟩; have n0_ := Aside0.mk (Kd.R_lower ho0 (below_size (by repeat (first | (with_reducible first | exact HB.out | apply below_alloc | apply pw_below_drewN | apply below_drew1) | exact HB.out)))); have n1_ := Aside0.mk (below_step (by repeat (first | (with_reducible first | exact HB.out | apply below_alloc | apply pw_below_drewN | apply below_drew1) | exact HB.out)) hb); clear HB; have HO143 := n0_; have HB := n1_; clear n0_ n1_; (try clear hb); (try clear hb2); (try clear hk); (try clear hi); (try clear ho0)) | ((with_reducible refine gate_callee (f := 13) rfl ?_); refine goesL_ (some 34) rfl rfl Try.func13 (by kernel_rfl) rfl #[toPtr (.slice A0 l0.length c0), .slice A1 l1.length c1] rfl (by (try simp only [List.map_toArray, List.map_cons, List.map_nil]); first | done | (rw [hT_HR0] <;> rfl) | rfl | (simp only [List.length_drop, List.length_take]; rfl)) ?_; (try rw [← hT_HR0]); (with_reducible refine (dft_Good.calls k _ _ l0 _ _ l1 true _ ?side1 ?side2 ?side3 ?side4 A8.out).mono ?_); (case side1 => repeat (first | exact (Kd.C_below HR0.out HB.out) | (with_reducible refine Kd.C_alloc ?_ _) | (with_reducible refine Kd.C_drewN ?_ _) | (with_reducible refine Kd.C_drew ?_))); (case side2 => exact HC0.out); (case side3 => repeat (first | exact (Kd.C_below HR1.out HB.out) | (with_reducible refine Kd.C_alloc ?_ _) | (with_reducible refine Kd.C_drewN ?_ _) | (with_reducible refine Kd.C_drew ?_))); (case side4 => exact HC1.out); rintro e w' ⟨rfl, ⟨nd, rfl⟩⟩; refine ⟨_, rfl, ?_⟩) | ((with_reducible refine gate_callee (f := 14) rfl ?_); refine goesL_ (some 41) rfl rfl Try.func14 (by kernel_rfl) rfl #[toPtr (.slice A0 l0.length c0), .int .i64 (l1.length : Int), .bool a2] rfl (by (try simp only [List.map_toArray, List.map_cons, List.map_nil]); first | done | (rw [hT_HR0] <;> rfl) | rfl | (simp only [List.length_drop, List.length_take]; rfl)) ?_; (try rw [← hT_HR0]); (with_reducible refine (twiddle_Lifted.calls k _ _ l0 (l1.length : Int) a2 t145 t146 _ ?side1 ?side2 A10.out).mono ?_); (case side1 => repeat (first | exact (Kd.C_below HR0.out (by repeat (first | (with_reducible first | exact HB.out | apply below_alloc | apply pw_below_drewN | apply below_drew1) | exact HB.out))) | (with_reducible refine Kd.C_alloc ?_ _) | (with_reducible refine Kd.C_drewN ?_ _) | (with_reducible refine Kd.C_drew ?_))); (case side2 => exact HC0.out); rintro e w13 ⟨v147, rfl, ho0, hb⟩; refine ⟨_, rfl, ?_⟩; have n0_ := Aside0.mk (Kd.R_below (by (with_reducible repeat (first | apply Kd.R_alloc | apply Kd.R_drewN | apply Kd.R_drew)); exact HO143.out) hb); have n1_ := Aside0.mk (Kd.R_lower ho0 (below_size (by repeat (first | (with_reducible first | exact HB.out | apply below_alloc | apply pw_below_drewN | apply below_drew1) | exact HB.out)))); have n2_ := Aside0.mk (below_step (by repeat (first | (with_reducible first | exact HB.out | apply below_alloc | apply pw_below_drewN | apply below_drew1) | exact HB.out)) hb); clear HO143; clear HB; have HO143 := n0_; have HO148 := n1_; have HB := n2_; clear n0_ n1_ n2_; (try clear hb); (try clear hb2); (try clear hk); (try clear hi); (try clear ho0); obtain ⟨Ao14, co14, eo14⟩ := Kd.R_slice HO143.out; subst eo14) | ((with_reducible refine gate_callee (f := 15) rfl ?_); refine goesL_ (some 47) rfl rfl Try.func15 (by kernel_rfl) rfl #[.slice A1 l1.length c1, .slice Ao14 t140.length co14] rfl (by (try simp only [List.map_toArray, List.map_cons, List.map_nil]); first | done | rfl | (simp only [List.length_drop, List.length_take]; rfl)) ?_; (with_reducible refine (digits_Order.calls k _ _ l1 _ _ t140 t149 t150 _ ?side1 ?side2 ?side3 ?side4 A11.out).mono ?_); (case side1 => repeat (first | exact (Kd.C_below HR1.out HB.out) | (with_reducible refine Kd.C_alloc ?_ _) | (with_reducible refine Kd.C_drewN ?_ _) | (with_reducible refine Kd.C_drew ?_))); (case side2 => exact HC1.out); (case side3 => repeat (first | exact (Kd.R_reads' HO143.out).2.2 | (with_reducible refine Kd.C_alloc ?_ _) | (with_reducible refine Kd.C_drewN ?_ _) | (with_reducible refine Kd.C_drew ?_))); (case side4 => exact (Kd.R_reads' HO143.out).2.1); rintro e w15 ⟨v151, rfl, ho0, hb⟩; refine ⟨_, rfl, ?_⟩; have n0_ := Aside0.mk (Kd.R_below (by (with_reducible repeat (first | apply Kd.R_alloc | apply Kd.R_drewN | apply Kd.R_drew)); exact HO143.out) hb); have n1_ := Aside0.mk (Kd.R_elder' (by (with_reducible repeat (first | apply Kd.R_alloc | apply Kd.R_drewN | apply Kd.R_drew)); exact HO148.out) (Kd.R_base ho0) hb); have n2_ := Aside0.mk (Kd.R_lower (Kd.R_new' ho0 (Kd.R_lt (by (with_reducible repeat (first | apply Kd.R_alloc | apply Kd.R_drewN | apply Kd.R_drew)); exact HO148.out))) (below_size (by repeat (first | (with_reducible first | exact HB.out | apply below_alloc | apply pw_below_drewN | apply below_drew1) | exact HB.out)))); have n3_ := Aside0.mk (below_step (by repeat (first | (with_reducible first | exact HB.out | apply below_alloc | apply pw_below_drewN | apply below_drew1) | exact HB.out)) hb); clear HO143; clear HO148; clear HB; have HO143 := n0_; have HO148 := n1_; have HO152 := n2_; have HB := n3_; clear n0_ n1_ n2_ n3_; (try clear hb); (try clear hb2); (try clear hk); (try clear hi); (try clear ho0)))
    go_loopg [15, 16] k (fun kq v15 v16 w' => ∃ (x13_1 : List Int) (x15_1 : Int) (x16_1 : Int), v15 = .int .i64 x15_1 ∧ v16 = .int .i64 x16_1 ∧ Aside0 (mixed_Run.l0 kq l0 a2 t140 t145 x13_1 x15_1 x16_1 = some (r1, r2)) ∧ Aside0 (kq ≤ k) ∧ Aside0 (Kd.R (Kd.int .i64) 3 w' w.heap.size (fun _ => True) (.slice Ao14 t140.length co14) t140) ∧ Aside0 (Kd.R (Kd.int .u64) 31 w' w.heap.size (fun k_ => some k_ ≠ (v151 : Value).ownBlock) v147 t145) ∧ Aside0 (Kd.R (Kd.int .u64) 31 w' w.heap.size (fun k_ => some k_ ≠ (v147 : Value).ownBlock) v151 x13_1) ∧ Aside0 (Below w.heap.size w w'))
    case atStart => exact ⟨(t149), (1), (wrap64 ((t140.length : Int) - 1)), (by first | rfl | (simp; done) | (simp [*]; done)), (by first | rfl | (simp; done) | (simp [*]; done)), H', ⟨Nat.le_refl _⟩, ⟨by (with_reducible repeat (first | apply Kd.R_alloc | apply Kd.R_drewN | apply Kd.R_drew)); exact HO143.out⟩, ⟨by (with_reducible repeat (first | apply Kd.R_alloc | apply Kd.R_drewN | apply Kd.R_drew)); exact Kd.R_mono HO148.out (fun _ hk => hk.2)⟩, ⟨by (with_reducible repeat (first | apply Kd.R_alloc | apply Kd.R_drewN | apply Kd.R_drew)); exact Kd.R_mono HO152.out (fun _ hk => hk.2)⟩, ⟨by repeat (first | (with_reducible first | exact HB.out | apply below_alloc | apply pw_below_drewN | apply below_drew1) | exact HB.out)⟩⟩
    case round =>
     clear H'
     try clear c1
     try clear p2
     try clear c5
     try clear c5b0
     try clear c5b1
     try clear p6
     try clear c7
     try clear c8
     try clear c9
     try clear c12
     try clear c13
     try clear c14
     try clear c15
     obtain ⟨x13_1, x15_1, x16_1, rfl, rfl, HA, HK1, HO_9, HO_11, HO_13, HB⟩ := hrel
     cases gk with
     | zero => exact absurd HA.out (by simp [mixed_Run.l0])
     | succ k1 =>
      have H := HA.out
      clear HA
      simp only [mixed_Run.l0] at H
      by_cases c16 : x16_1 ≥ 0
      ·rw [if_pos c16] at H
       have c16b0 : decide (0 ≤ x16_1) = true := decide_eq_true c16
       clear c16
       by_cases c17 : 0 ≤ x16_1
       ·rw [if_pos c17] at H
        have c17b0 : decide (0 ≤ x16_1) = true := decide_eq_true c17
        clear c17
        by_cases c18 : x16_1 < (t140.length : Int)
        ·rw [if_pos c18] at H
         have c18b0 : decide (x16_1 < (t140.length : Int)) = true := decide_eq_true c18
         clear c18
         replace H := Option.bind_eq_some_iff.mp H
         obtain ⟨t154, A190, H⟩ := H
         replace H : (mixed_Run.l0 k1 l0 a2 t140 t145 t154 (wrap64 (x15_1 * (rd t140 x16_1))) (wrap64 (x16_1 - 1))) = some (r1, r2) := H
         have A19 := Aside0.mk A190
         clear A190
         have H' := Aside0.mk H
         clear H
         have p153 : 0 ≤ (x16_1 : Int) := of_decide_eq_true (by first | (with_reducible assumption) | assumption)
         have q153 : x16_1 < (t140.length : Int) := of_decide_eq_true (by first | (with_reducible assumption) | assumption)
         obtain ⟨ad153, e153, hx153_0⟩ := Kd.at_int (Kd.R_reads' HO_9.out).2.2 x16_1 p153 q153
         cases e153
         replace p153 := eq_true p153
         replace q153 := eq_true q153
         obtain ⟨Ao20, co20, eo20⟩ := Kd.R_slice HO_11.out
         subst eo20
         obtain ⟨Ao21, co21, eo21⟩ := Kd.R_slice HO_13.out
         subst eo21
         go_wp2_with (first | ((with_reducible refine gate_callee (f := 16) rfl ?_); refine goesL_ (some 66) rfl rfl Try.func16 (by kernel_rfl) rfl #[.agg #[toPtr (.slice A0 l0.length c0), .slice Ao20 t145.length co20, .int .i64 (rd t140 x16_1), .int .i64 x15_1], .slice Ao21 x13_1.length co21] rfl (by (try simp only [List.map_toArray, List.map_cons, List.map_nil]); first | done | (rw [hT_HR0] <;> rfl) | rfl | (simp only [List.length_drop, List.length_take]; rfl)) ?_; (try rw [← hT_HR0]); (with_reducible refine (mixed_stage_all.calls k1 _ _ l0 _ _ t145 (rd t140 x16_1) x15_1 (fun k_ => some k_ = (.slice Ao21 x13_1.length co21 : Value).ownBlock) (.slice Ao21 x13_1.length co21) x13_1 t154 w _ ?side1 ?side2 ?side3 ?side4 ?side5 ?side6 A19.out).mono ?_); (case side1 => repeat (first | (with_reducible first | exact HB.out | apply below_alloc | apply pw_below_drewN | apply below_drew1) | exact HB.out)); (case side2 => exact Kd.C_kept_came kFld_heap HR0.out (by repeat (first | (with_reducible first | exact HB.out | apply below_alloc | apply pw_below_drewN | apply below_drew1) | exact HB.out)) (fun k_ hs_ => (fun e_ => Kd.R_base HO_13.out k_ e_.symm) hs_)); (case side3 => exact HC0.out); (case side4 => exact Kd.C_kept_own (HO_11.out) (fun k_ hk_ hs_ => (hk_) hs_)); (case side5 => exact (Kd.R_reads' HO_11.out).2.1); (case side6 => exact Kd.R_tight rfl HO_13.out); rintro e w22 ⟨rfl, hy0, hb, hkp⟩; refine ⟨_, rfl, ?_⟩; have n0_ := Aside0.mk (Kd.R_mono (ok' := fun k_ => True) (Kd.R_keptB ((Kd.R_apart' HO_9.out (Kd.R_typed HO_13.out) (by decide))) hkp (fun k_ hk_ hs_ => (hk_.2) hs_)) (fun k_ hk_ => trivial)); have n1_ := Aside0.mk (Kd.R_mono (ok' := fun k_ => some k_ ≠ (.slice Ao21 x13_1.length co21 : Value).ownBlock) (Kd.R_keptB (HO_11.out) hkp (fun k_ hk_ hs_ => (hk_) hs_)) (fun k_ hk_ => hk_.1)); have n2_ := Aside0.mk (Kd.R_reok rfl hy0 (fun k_ e_ => HO_13.out.1 k_ e_)); have n3_ := Aside0.mk (hb); clear HO_9; clear HO_11; clear HO_13; clear HB; have HO_9 := n0_; have HO_11 := n1_; have HO_13 := n2_; have HB := n3_; clear n0_ n1_ n2_ n3_; (try clear hb); (try clear hkp); (try clear hy0); have p155 : 0 ≤ (x16_1 : Int) := of_decide_eq_true (by first | (with_reducible assumption) | assumption); have q155 : x16_1 < (t140.length : Int) := of_decide_eq_true (by first | (with_reducible assumption) | assumption); obtain ⟨ad155, e155, hx155_0⟩ := Kd.at_int (Kd.R_reads' HO_9.out).2.2 x16_1 p155 q155; obtain rfl : ad153 = ad155 := (by injection e155); replace p155 := eq_true p155; replace q155 := eq_true q155))
         go_roundg k1
         case measure => have := HK1.out; omega
         case rel => exact ⟨(t154), (wrap64 (x15_1 * (rd t140 x16_1))), (wrap64 (x16_1 - 1)), (by first | rfl | (simp; done) | (simp [*]; done)), (by first | rfl | (simp; done) | (simp [*]; done)), H', ⟨by have := HK1.out; omega⟩, ⟨by (with_reducible repeat (first | apply Kd.R_alloc | apply Kd.R_drewN | apply Kd.R_drew)); exact HO_9.out⟩, ⟨by (with_reducible repeat (first | apply Kd.R_alloc | apply Kd.R_drewN | apply Kd.R_drew)); exact HO_11.out⟩, ⟨by (with_reducible repeat (first | apply Kd.R_alloc | apply Kd.R_drewN | apply Kd.R_drew)); exact HO_13.out⟩, ⟨by repeat (first | (with_reducible first | exact HB.out | apply below_alloc | apply pw_below_drewN | apply below_drew1) | exact HB.out)⟩⟩
        ·rw [if_neg c18] at H
         exact absurd H (by simp)
       ·rw [if_neg c17] at H
        exact absurd H (by simp)
      ·rw [if_neg c16] at H
       have c16b0 : decide (0 ≤ x16_1) = false := decide_eq_false c16
       clear c16
       by_cases c23 : a2 = true
       ·subst c23
        have H1 : ((dft_Scale.f k1 l0 x13_1).bind fun t156 => (some (t156, 0))) = some (r1, r2) := by rw [if_pos rfl] at H <;> exact H
        clear H
        have H := H1
        clear H1
        replace H := Option.bind_eq_some_iff.mp H
        obtain ⟨t156, A240, H⟩ := H
        replace H : (some (t156, 0)) = some (r1, r2) := H
        have A24 := Aside0.mk A240
        clear A240
        simp only [Option.some.injEq, Prod.mk.injEq] at H
        obtain ⟨rfl, rfl⟩ := H
        obtain ⟨Ao25, co25, eo25⟩ := Kd.R_slice HO_13.out
        subst eo25
        go_wp2_with (first | ((with_reducible refine gate_callee (f := 17) rfl ?_); refine goesL_ (some 76) rfl rfl Try.func17 (by kernel_rfl) rfl #[toPtr (.slice A0 l0.length c0), .slice Ao25 x13_1.length co25] rfl (by (try simp only [List.map_toArray, List.map_cons, List.map_nil]); first | done | (rw [hT_HR0] <;> rfl) | rfl | (simp only [List.length_drop, List.length_take]; rfl)) ?_; (try rw [← hT_HR0]); (with_reducible refine (dft_Scale.calls k1 _ _ l0 _ _ x13_1 t156 _ ?side1 ?side2 ?side3 ?side4 A24.out).mono ?_); (case side1 => repeat (first | exact (Kd.C_below HR0.out HB.out) | (with_reducible refine Kd.C_alloc ?_ _) | (with_reducible refine Kd.C_drewN ?_ _) | (with_reducible refine Kd.C_drew ?_))); (case side2 => exact HC0.out); (case side3 => repeat (first | exact (Kd.R_reads' HO_13.out).2.2 | (with_reducible refine Kd.C_alloc ?_ _) | (with_reducible refine Kd.C_drewN ?_ _) | (with_reducible refine Kd.C_drew ?_))); (case side4 => exact (Kd.R_reads' HO_13.out).2.1); rintro e w26 ⟨v157, rfl, ho0, hb⟩; refine ⟨_, rfl, ?_⟩; have n0_ := Aside0.mk (Kd.R_below (by (with_reducible repeat (first | apply Kd.R_alloc | apply Kd.R_drewN | apply Kd.R_drew)); exact HO_9.out) hb); have n1_ := Aside0.mk (Kd.R_elder' (by (with_reducible repeat (first | apply Kd.R_alloc | apply Kd.R_drewN | apply Kd.R_drew)); exact HO_11.out) (Kd.R_base ho0) hb); have n2_ := Aside0.mk (Kd.R_elder' (by (with_reducible repeat (first | apply Kd.R_alloc | apply Kd.R_drewN | apply Kd.R_drew)); exact HO_13.out) (Kd.R_base ho0) hb); have n3_ := Aside0.mk (Kd.R_lower (Kd.R_new' (Kd.R_new' ho0 (Kd.R_lt (by (with_reducible repeat (first | apply Kd.R_alloc | apply Kd.R_drewN | apply Kd.R_drew)); exact HO_11.out))) (Kd.R_lt (by (with_reducible repeat (first | apply Kd.R_alloc | apply Kd.R_drewN | apply Kd.R_drew)); exact HO_13.out))) (below_size (by repeat (first | (with_reducible first | exact HB.out | apply below_alloc | apply pw_below_drewN | apply below_drew1) | exact HB.out)))); have n4_ := Aside0.mk (below_step (by repeat (first | (with_reducible first | exact HB.out | apply below_alloc | apply pw_below_drewN | apply below_drew1) | exact HB.out)) hb); clear HO_9; clear HO_11; clear HO_13; clear HB; have HO_9 := n0_; have HO_11 := n1_; have HO_13 := n2_; have HO158 := n3_; have HB := n4_; clear n0_ n1_ n2_ n3_ n4_; (try clear hb); (try clear hb2); (try clear hk); (try clear hi); (try clear ho0)))
        go_ret2
        exact ⟨_, by first | rfl | (simp [errW_none, errW_some] <;> rfl) | (simp [*, errW_none, errW_some] <;> rfl), by (with_reducible repeat (first | apply Kd.R_alloc | apply Kd.R_drewN | apply Kd.R_drew)); exact Kd.R_mono HO158.out (fun _ hk => trivial), by repeat (first | (with_reducible first | exact HB.out | apply below_alloc | apply pw_below_drewN | apply below_drew1) | exact HB.out)⟩
       ·replace c23 := Bool.eq_false_iff.mpr c23
        subst c23
        have H1 : (some (x13_1, 0)) = some (r1, r2) := by rw [if_neg (show ¬ (false = true) by decide)] at H <;> exact H
        clear H
        have H := H1
        clear H1
        simp only [Option.some.injEq, Prod.mk.injEq] at H
        obtain ⟨rfl, rfl⟩ := H
        go_wp2
        go_ret2
        exact ⟨_, by first | rfl | (simp [errW_none, errW_some] <;> rfl) | (simp [*, errW_none, errW_some] <;> rfl), by (with_reducible repeat (first | apply Kd.R_alloc | apply Kd.R_drewN | apply Kd.R_drew)); exact Kd.R_mono HO_13.out (fun _ hk => trivial), by repeat (first | (with_reducible first | exact HB.out | apply below_alloc | apply pw_below_drewN | apply below_drew1) | exact HB.out)⟩
   ·replace c9 := Bool.eq_false_iff.mpr c9
    subst c9
    have H1 : (some (([] : List Int), 9)) = some (r1, r2) := by rw [if_neg (show ¬ (false = true) by decide)] at H <;> exact H
    clear H
    have H := H1
    clear H1
    simp only [Option.some.injEq, Prod.mk.injEq] at H
    obtain ⟨rfl, rfl⟩ := H
    go_enter Try.func8, Try.ntmps8
    go_wp2_with (first | ((with_reducible refine gate_callee (f := 12) rfl ?_); refine goesL_ (some 20) rfl rfl Try.func12 (by kernel_rfl) rfl #[toPtr (.slice A0 l0.length c0), .int .i64 (l1.length : Int), .int .i64 1024] rfl (by (try simp only [List.map_toArray, List.map_cons, List.map_nil]); first | done | (rw [hT_HR0] <;> rfl) | rfl | (simp only [List.length_drop, List.length_take]; rfl)) ?_; (try rw [← hT_HR0]); (with_reducible refine (dft_Check.calls _ _ l0 (l1.length : Int) 1024 t139 _ ?side1 ?side2 A4.out).mono ?_); (case side1 => repeat (first | exact HR0.out | (with_reducible refine Kd.C_alloc ?_ _) | (with_reducible refine Kd.C_drewN ?_ _) | (with_reducible refine Kd.C_drew ?_))); (case side2 => exact HC0.out); rintro e w' ⟨rfl, ⟨nd, rfl⟩⟩; refine ⟨_, rfl, ?_⟩) | ((with_reducible refine gate_callee (f := 5) rfl ?_); refine goesL_ (some 27) rfl rfl Try.func5 (by kernel_rfl) rfl #[.int .i64 (l1.length : Int)] rfl (by (try simp only [List.map_toArray, List.map_cons, List.map_nil]); first | done | rfl | (simp only [List.length_drop, List.length_take]; rfl)) ?_; (with_reducible refine (mixed_Radices.calls k (l1.length : Int) t140 true _ A6.out).mono ?_); rintro e w27 ⟨v142, rfl, ho0, hb⟩; refine ⟨_, rfl, ?_⟩; have n0_ := Aside0.mk (Kd.R_lower ho0 (below_size (by repeat (first | (with_reducible first | exact HB.out | apply below_alloc | apply pw_below_drewN | apply below_drew1) | exact HB.out)))); have n1_ := Aside0.mk (below_step (by repeat (first | (with_reducible first | exact HB.out | apply below_alloc | apply pw_below_drewN | apply below_drew1) | exact HB.out)) hb); clear HB; have HO143 := n0_; have HB := n1_; clear n0_ n1_; (try clear hb); (try clear hb2); (try clear hk); (try clear hi); (try clear ho0)) | ((with_reducible refine gate_callee (f := 13) rfl ?_); refine goesL_ (some 34) rfl rfl Try.func13 (by kernel_rfl) rfl #[toPtr (.slice A0 l0.length c0), .slice A1 l1.length c1] rfl (by (try simp only [List.map_toArray, List.map_cons, List.map_nil]); first | done | (rw [hT_HR0] <;> rfl) | rfl | (simp only [List.length_drop, List.length_take]; rfl)) ?_; (try rw [← hT_HR0]); (with_reducible refine (dft_Good.calls k _ _ l0 _ _ l1 false _ ?side1 ?side2 ?side3 ?side4 A8.out).mono ?_); (case side1 => repeat (first | exact (Kd.C_below HR0.out HB.out) | (with_reducible refine Kd.C_alloc ?_ _) | (with_reducible refine Kd.C_drewN ?_ _) | (with_reducible refine Kd.C_drew ?_))); (case side2 => exact HC0.out); (case side3 => repeat (first | exact (Kd.C_below HR1.out HB.out) | (with_reducible refine Kd.C_alloc ?_ _) | (with_reducible refine Kd.C_drewN ?_ _) | (with_reducible refine Kd.C_drew ?_))); (case side4 => exact HC1.out); rintro e w' ⟨rfl, ⟨nd, rfl⟩⟩; refine ⟨_, rfl, ?_⟩))
    go_ret2
    exact ⟨_, by first | rfl | (simp [errW_none, errW_some] <;> rfl) | (simp [*, errW_none, errW_some] <;> rfl), by first | exact Kd.R_nil _ _ _ _ _ | exact Kd.N_nil _ _ _ _ _ | exact Kd.V_nil _ _ _ _ _ | exact Kd.Q_nil _ _ _ _ _ | exact Kd.S_nil _ _ _ _ _, by repeat (first | (with_reducible first | exact HB.out | apply below_alloc | apply pw_below_drewN | apply below_drew1) | exact HB.out)⟩
  ·replace c7 := Bool.eq_false_iff.mpr c7
   subst c7
   have H1 : (some (([] : List Int), 11)) = some (r1, r2) := by rw [if_neg (show ¬ (false = true) by decide)] at H <;> exact H
   clear H
   have H := H1
   clear H1
   simp only [Option.some.injEq, Prod.mk.injEq] at H
   obtain ⟨rfl, rfl⟩ := H
   go_enter Try.func8, Try.ntmps8
   go_wp2_with (first | ((with_reducible refine gate_callee (f := 12) rfl ?_); refine goesL_ (some 20) rfl rfl Try.func12 (by kernel_rfl) rfl #[toPtr (.slice A0 l0.length c0), .int .i64 (l1.length : Int), .int .i64 1024] rfl (by (try simp only [List.map_toArray, List.map_cons, List.map_nil]); first | done | (rw [hT_HR0] <;> rfl) | rfl | (simp only [List.length_drop, List.length_take]; rfl)) ?_; (try rw [← hT_HR0]); (with_reducible refine (dft_Check.calls _ _ l0 (l1.length : Int) 1024 t139 _ ?side1 ?side2 A4.out).mono ?_); (case side1 => repeat (first | exact HR0.out | (with_reducible refine Kd.C_alloc ?_ _) | (with_reducible refine Kd.C_drewN ?_ _) | (with_reducible refine Kd.C_drew ?_))); (case side2 => exact HC0.out); rintro e w' ⟨rfl, ⟨nd, rfl⟩⟩; refine ⟨_, rfl, ?_⟩) | ((with_reducible refine gate_callee (f := 5) rfl ?_); refine goesL_ (some 27) rfl rfl Try.func5 (by kernel_rfl) rfl #[.int .i64 (l1.length : Int)] rfl (by (try simp only [List.map_toArray, List.map_cons, List.map_nil]); first | done | rfl | (simp only [List.length_drop, List.length_take]; rfl)) ?_; (with_reducible refine (mixed_Radices.calls k (l1.length : Int) t140 false _ A6.out).mono ?_); rintro e w28 ⟨v142, rfl, ho0, hb⟩; refine ⟨_, rfl, ?_⟩; have n0_ := Aside0.mk (Kd.R_lower ho0 (below_size (by repeat (first | (with_reducible first | exact HB.out | apply below_alloc | apply pw_below_drewN | apply below_drew1) | exact HB.out)))); have n1_ := Aside0.mk (below_step (by repeat (first | (with_reducible first | exact HB.out | apply below_alloc | apply pw_below_drewN | apply below_drew1) | exact HB.out)) hb); clear HB; have HO143 := n0_; have HB := n1_; clear n0_ n1_; (try clear hb); (try clear hb2); (try clear hk); (try clear hi); (try clear ho0)))
   go_ret2
   exact ⟨_, by first | rfl | (simp [errW_none, errW_some] <;> rfl) | (simp [*, errW_none, errW_some] <;> rfl), by first | exact Kd.R_nil _ _ _ _ _ | exact Kd.N_nil _ _ _ _ _ | exact Kd.V_nil _ _ _ _ _ | exact Kd.Q_nil _ _ _ _ _ | exact Kd.S_nil _ _ _ _ _, by repeat (first | (with_reducible first | exact HB.out | apply below_alloc | apply pw_below_drewN | apply below_drew1) | exact HB.out)⟩
 ·rw [if_neg c5] at H
  have c5b0 : (t139 == 0) = false := beq_eq_false_iff_ne.mpr c5
  have c5b1 : (t139 != 0) = true := bne_iff_ne.mpr c5
  simp only [Option.some.injEq, Prod.mk.injEq] at H
  obtain ⟨rfl, rfl⟩ := H
  go_enter Try.func8, Try.ntmps8
  go_wp2_with (first | ((with_reducible refine gate_callee (f := 12) rfl ?_); refine goesL_ (some 20) rfl rfl Try.func12 (by kernel_rfl) rfl #[toPtr (.slice A0 l0.length c0), .int .i64 (l1.length : Int), .int .i64 1024] rfl (by (try simp only [List.map_toArray, List.map_cons, List.map_nil]); first | done | (rw [hT_HR0] <;> rfl) | rfl | (simp only [List.length_drop, List.length_take]; rfl)) ?_; (try rw [← hT_HR0]); (with_reducible refine (dft_Check.calls _ _ l0 (l1.length : Int) 1024 t139 _ ?side1 ?side2 A4.out).mono ?_); (case side1 => repeat (first | exact HR0.out | (with_reducible refine Kd.C_alloc ?_ _) | (with_reducible refine Kd.C_drewN ?_ _) | (with_reducible refine Kd.C_drew ?_))); (case side2 => exact HC0.out); rintro e w' ⟨rfl, ⟨nd, rfl⟩⟩; refine ⟨_, rfl, ?_⟩))
  go_ret2
  exact ⟨_, by first | rfl | (simp [errW_none, errW_some] <;> rfl) | (simp [*, errW_none, errW_some] <;> rfl), by first | exact Kd.R_nil _ _ _ _ _ | exact Kd.N_nil _ _ _ _ _ | exact Kd.V_nil _ _ _ _ _ | exact Kd.Q_nil _ _ _ _ _ | exact Kd.S_nil _ _ _ _ _, by repeat (first | (with_reducible first | exact HB.out | apply below_alloc | apply pw_below_drewN | apply below_drew1) | exact HB.out)⟩
noncomputable def epicyclelaw14_same.l0 : Nat → List Int → List Int → Int → Int → Option (Bool)
 | 0, _, _, _, _ => none
 | k + 1, x0, x1, x12, x13 => if x13 < x12 then (if 0 ≤ x13 then (if x13 < (x0.length : Int) then (if x13 < (x1.length : Int) then (if (rd x0 x13) = (rd x1 x13) then (epicyclelaw14_same.l0 k x0 x1 x12 (wrap64 (x13 + 1))) else (some false)) else (none)) else (none)) else (none)) else (some true)
noncomputable def epicyclelaw14_same.f (k : Nat) (l0 : List Int) (l1 : List Int) : Option (Bool) := if (l0.length : Int) = (l1.length : Int) then (epicyclelaw14_same.l0 k l0 l1 (l0.length : Int) 0) else (some false)
theorem epicyclelaw14_same.mono_l : ∀ k, (∀ y0 y1 y2 y3, LeO (epicyclelaw14_same.l0 k y0 y1 y2 y3) (epicyclelaw14_same.l0 (k + 1) y0 y1 y2 y3))
 | 0 => fun _ _ _ _ r h => by simp [epicyclelaw14_same.l0] at h
 | k + 1 => by
  have ih0 := epicyclelaw14_same.mono_l k
  ·intro y0 y1 y2 y3
   unfold epicyclelaw14_same.l0
   repeat' first
   | (with_reducible exact ih0 _ _ _ _)
   | (with_reducible exact LeO.refl _)
   | (with_reducible exact LeO.none _)
   | (with_reducible refine LeO.ite ?_ ?_)
   | (with_reducible refine LeO.bind ?_ (fun _ => ?_))
   | exact ih0 _ _ _ _
   | exact LeO.none _
   | refine LeO.ite ?_ ?_
   | refine LeO.bind ?_ (fun _ => ?_)
theorem epicyclelaw14_same.mono : ∀ a0 a1 k, LeO (epicyclelaw14_same.f k a0 a1) (epicyclelaw14_same.f (k + 1) a0 a1) := by
 intro a0 a1 k
 have ih0 := epicyclelaw14_same.mono_l k
 unfold epicyclelaw14_same.f
 repeat' first
   | (with_reducible exact ih0 _ _ _ _)
   | (with_reducible exact LeO.refl _)
   | (with_reducible exact LeO.none _)
   | (with_reducible refine LeO.ite ?_ ?_)
   | (with_reducible refine LeO.bind ?_ (fun _ => ?_))
   | exact ih0 _ _ _ _
   | exact LeO.none _
   | refine LeO.ite ?_ ?_
   | refine LeO.bind ?_ (fun _ => ?_)
set_option maxHeartbeats 8000000 in
set_option maxRecDepth 100000 in
theorem epicyclelaw14_same.calls (k : Nat) (A0 : Option Addr) (c0 : Nat) (l0 : List Int) (A1 : Option Addr) (c1 : Nat) (l1 : List Int) (r : Bool) (w : World) (hr0 : Kd.C (Kd.int .u64) w A0 l0.length l0) (hc0 : l0.length ≤ c0) (hr1 : Kd.C (Kd.int .u64) w A1 l1.length l1) (hc1 : l1.length ≤ c1) (h : epicyclelaw14_same.f k l0 l1 = some r) :
  Calls Try.prog 9 #[.slice A0 l0.length c0, .slice A1 l1.length c1] w fun e w' => e = .returned (.bool r) ∧ Drawn0 w w' := by
 have HR0 := Aside0.mk hr0
 have HC0 := Aside0.mk hc0
 clear hr0 hc0
 have HR1 := Aside0.mk hr1
 have HC1 := Aside0.mk hc1
 clear hr1 hc1
 have H : (if (l0.length : Int) = (l1.length : Int) then (epicyclelaw14_same.l0 k l0 l1 (l0.length : Int) 0) else (some false)) = some r := h
 clear h
 by_cases c3 : (l0.length : Int) = (l1.length : Int)
 ·rw [if_pos c3] at H
  have c3b0 : ((l0.length : Int) == (l1.length : Int)) = true := beq_iff_eq.mpr c3
  have c3b1 : ((l0.length : Int) != (l1.length : Int)) = false := bne_eq_false_iff_eq.mpr c3
  have c3b2 : (l0.length == l1.length) = true := by first | simpa using c3 | (simp at c3 ⊢; omega)
  clear c3
  have H' := Aside0.mk H
  clear H
  go_enter Try.func9, Try.ntmps9
  go_wp2
  repeat (go_quiet (fail); try go_wp2)
  go_loopg [13] k (fun kq v13 w' => ∃ (x13_1 : Int), v13 = .int .i64 x13_1 ∧ Aside0 (epicyclelaw14_same.l0 kq l0 l1 (l0.length : Int) x13_1 = some r) ∧ Aside0 (kq ≤ k) ∧ Drawn0 w w')
  case atStart => exact ⟨(0), (by first | rfl | (simp; done) | (simp [*]; done)), H', ⟨Nat.le_refl _⟩, by repeat (first | exact Drawn0.refl _ | apply Drawn0.step)⟩
  case round =>
   clear H'
   try clear c1
   try clear p2
   try clear c3
   try clear c3b0
   try clear c3b1
   try clear c3b2
   obtain ⟨x13_1, rfl, HA, HK1, ⟨m1, rfl⟩⟩ := hrel
   cases gk with
   | zero => exact absurd HA.out (by simp [epicyclelaw14_same.l0])
   | succ k1 =>
    have H := HA.out
    clear HA
    simp only [epicyclelaw14_same.l0] at H
    by_cases c4 : x13_1 < (l0.length : Int)
    ·rw [if_pos c4] at H
     have c4b0 : decide (x13_1 < (l0.length : Int)) = true := decide_eq_true c4
     clear c4
     by_cases c5 : 0 ≤ x13_1
     ·rw [if_pos c5] at H
      have c5b0 : decide (0 ≤ x13_1) = true := decide_eq_true c5
      clear c5
      by_cases c6 : x13_1 < (l0.length : Int)
      ·rw [if_pos c6] at H
       have c6b0 : decide (x13_1 < (l0.length : Int)) = true := decide_eq_true c6
       clear c6
       by_cases c7 : x13_1 < (l1.length : Int)
       ·rw [if_pos c7] at H
        have c7b0 : decide (x13_1 < (l1.length : Int)) = true := decide_eq_true c7
        clear c7
        by_cases c8 : (rd l0 x13_1) = (rd l1 x13_1)
        ·rw [if_pos c8] at H
         have c8b0 : ((rd l0 x13_1) == (rd l1 x13_1)) = true := beq_iff_eq.mpr c8
         have c8b1 : ((rd l0 x13_1) != (rd l1 x13_1)) = false := bne_eq_false_iff_eq.mpr c8
         clear c8
         have H' := Aside0.mk H
         clear H
         have p159 : 0 ≤ (x13_1 : Int) := of_decide_eq_true (by first | (with_reducible assumption) | assumption)
         have q159 : x13_1 < (l0.length : Int) := of_decide_eq_true (by first | (with_reducible assumption) | assumption)
         obtain ⟨ad159, e159, hx159_0⟩ := Kd.at_int HR0.out x13_1 p159 q159
         cases e159
         replace p159 := eq_true p159
         replace q159 := eq_true q159
         have p160 : 0 ≤ (x13_1 : Int) := of_decide_eq_true (by first | (with_reducible assumption) | assumption)
         have q160 : x13_1 < (l1.length : Int) := of_decide_eq_true (by first | (with_reducible assumption) | assumption)
         obtain ⟨ad160, e160, hx160_0⟩ := Kd.at_int HR1.out x13_1 p160 q160
         cases e160
         replace p160 := eq_true p160
         replace q160 := eq_true q160
         go_wp2
         repeat (go_quiet (fail); try go_wp2)
         go_roundg k1
         case measure => have := HK1.out; omega
         case rel => exact ⟨(wrap64 (x13_1 + 1)), (by first | rfl | (simp; done) | (simp [*]; done)), H', ⟨by have := HK1.out; omega⟩, by repeat (first | exact Drawn0.refl _ | apply Drawn0.step)⟩
        ·rw [if_neg c8] at H
         have c8b0 : ((rd l0 x13_1) == (rd l1 x13_1)) = false := beq_eq_false_iff_ne.mpr c8
         have c8b1 : ((rd l0 x13_1) != (rd l1 x13_1)) = true := bne_iff_ne.mpr c8
         obtain rfl := Option.some.inj H
         have p159 : 0 ≤ (x13_1 : Int) := of_decide_eq_true (by first | (with_reducible assumption) | assumption)
         have q159 : x13_1 < (l0.length : Int) := of_decide_eq_true (by first | (with_reducible assumption) | assumption)
         obtain ⟨ad159, e159, hx159_0⟩ := Kd.at_int HR0.out x13_1 p159 q159
         cases e159
         replace p159 := eq_true p159
         replace q159 := eq_true q159
         have p160 : 0 ≤ (x13_1 : Int) := of_decide_eq_true (by first | (with_reducible assumption) | assumption)
         have q160 : x13_1 < (l1.length : Int) := of_decide_eq_true (by first | (with_reducible assumption) | assumption)
         obtain ⟨ad160, e160, hx160_0⟩ := Kd.at_int HR1.out x13_1 p160 q160
         cases e160
         replace p160 := eq_true p160
         replace q160 := eq_true q160
         go_wp2
         repeat (go_quiet (fail); try go_wp2)
         go_ret
         exact ⟨by first | rfl | (simp; done) | (simp [*]; done), by repeat (first | exact Drawn0.refl _ | apply Drawn0.step)⟩
       ·rw [if_neg c7] at H
        exact absurd H (by simp)
      ·rw [if_neg c6] at H
       exact absurd H (by simp)
     ·rw [if_neg c5] at H
      exact absurd H (by simp)
    ·rw [if_neg c4] at H
     have c4b0 : decide (x13_1 < (l0.length : Int)) = false := decide_eq_false c4
     clear c4
     obtain rfl := Option.some.inj H
     go_wp2
     repeat (go_quiet (fail); try go_wp2)
     go_ret
     exact ⟨by first | rfl | (simp; done) | (simp [*]; done), by repeat (first | exact Drawn0.refl _ | apply Drawn0.step)⟩
 ·rw [if_neg c3] at H
  have c3b0 : ((l0.length : Int) == (l1.length : Int)) = false := beq_eq_false_iff_ne.mpr c3
  have c3b1 : ((l0.length : Int) != (l1.length : Int)) = true := bne_iff_ne.mpr c3
  have c3b2 : (l0.length == l1.length) = false := by first | simpa using c3 | (simp at c3 ⊢; omega)
  obtain rfl := Option.some.inj H
  go_enter Try.func9, Try.ntmps9
  go_wp2
  repeat (go_quiet (fail); try go_wp2)
  go_ret
  exact ⟨by first | rfl | (simp; done) | (simp [*]; done), by repeat (first | exact Drawn0.refl _ | apply Drawn0.step)⟩
noncomputable def epicyclelaw14_alive.f (k : Nat)  : Option (Bool) := (field_Small.f k 7).bind fun bt161 => ((mixed_Run.f k bt161.1 (([1, 2, 4] : List Int)) false).bind fun bt168 => ((mixed_Radices.f k 60).bind fun bt172 => (if bt168.2 = 0 then ((epicyclelaw14_same.f k bt168.1 (([0, 0, 3] : List Int))).bind fun t179 => (if t179 = true then (if bt172.2 = true then (if (bt172.1.length : Int) = 4 then (if 3 < (bt172.1.length : Int) then (some ((rd bt172.1 3) == 5)) else (none)) else (none)) else (none)) else (none))) else (none))))
theorem epicyclelaw14_alive.mono : ∀ k, LeO (epicyclelaw14_alive.f k ) (epicyclelaw14_alive.f (k + 1) ) := by
 intro  k
 unfold epicyclelaw14_alive.f
 repeat' first
   | (with_reducible exact epicyclelaw14_same.mono _ _ _)
   | (with_reducible exact field_Small.mono _ _)
   | (with_reducible exact mixed_Radices.mono _ _)
   | (with_reducible exact mixed_Run.mono _ _ _ _)
   | (with_reducible exact LeO.refl _)
   | (with_reducible exact LeO.none _)
   | (with_reducible refine LeO.ite ?_ ?_)
   | (with_reducible refine LeO.bind ?_ (fun _ => ?_))
   | exact epicyclelaw14_same.mono _ _ _
   | exact field_Small.mono _ _
   | exact mixed_Radices.mono _ _
   | exact mixed_Run.mono _ _ _ _
   | exact LeO.none _
   | refine LeO.ite ?_ ?_
   | refine LeO.bind ?_ (fun _ => ?_)
set_option maxHeartbeats 8000000 in
set_option maxRecDepth 100000 in
theorem epicyclelaw14_alive.calls (k : Nat)  (r : Bool) (w : World) (h : epicyclelaw14_alive.f k  = some r) :
  Calls Try.prog 4 #[] w fun e w' => e = .returned (.bool r) ∧ Below w.heap.size w w' := by
 have HB := Aside0.mk (Below.refl w.heap.size w)
 have H : ((field_Small.f k 7).bind fun bt161 => ((mixed_Run.f k bt161.1 (([1, 2, 4] : List Int)) false).bind fun bt168 => ((mixed_Radices.f k 60).bind fun bt172 => (if bt168.2 = 0 then ((epicyclelaw14_same.f k bt168.1 (([0, 0, 3] : List Int))).bind fun t179 => (if t179 = true then (if bt172.2 = true then (if (bt172.1.length : Int) = 4 then (if 3 < (bt172.1.length : Int) then (some ((rd bt172.1 3) == 5)) else (none)) else (none)) else (none)) else (none))) else (none))))) = some r := h
 clear h
 replace H := Option.bind_eq_some_iff.mp H
 obtain ⟨⟨t161, t162⟩, A10, H⟩ := H
 replace H : ((mixed_Run.f k t161 (([1, 2, 4] : List Int)) false).bind fun bt168 => ((mixed_Radices.f k 60).bind fun bt172 => (if bt168.2 = 0 then ((epicyclelaw14_same.f k bt168.1 (([0, 0, 3] : List Int))).bind fun t179 => (if t179 = true then (if bt172.2 = true then (if (bt172.1.length : Int) = 4 then (if 3 < (bt172.1.length : Int) then (some ((rd bt172.1 3) == 5)) else (none)) else (none)) else (none)) else (none))) else (none)))) = some r := H
 have A1 := Aside0.mk A10
 clear A10
 obtain ⟨y165, hy165⟩ : ∃ y_ : List Int, y_ = (([1, 2, 4] : List Int)) := ⟨_, rfl⟩
 replace H : ((mixed_Run.f k t161 y165 false).bind fun bt168 => ((mixed_Radices.f k 60).bind fun bt172 => (if bt168.2 = 0 then ((epicyclelaw14_same.f k bt168.1 (([0, 0, 3] : List Int))).bind fun t179 => (if t179 = true then (if bt172.2 = true then (if (bt172.1.length : Int) = 4 then (if 3 < (bt172.1.length : Int) then (some ((rd bt172.1 3) == 5)) else (none)) else (none)) else (none)) else (none))) else (none)))) = some r := by first | (rw [hy165]; with_reducible exact H) | (have H2_ := (Option.bind_some _ _).symm.trans H; rw [hy165]; with_reducible exact H2_) | (have H2_ := (Option.bind_some _ _).symm.trans H; with_reducible exact H2_) | with_reducible exact H | (rw [hy165]; exact H) | exact H
 have Ny165 := Aside0.mk hy165
 clear hy165
 replace H := Option.bind_eq_some_iff.mp H
 obtain ⟨⟨t168, t169⟩, A20, H⟩ := H
 replace H : ((mixed_Radices.f k 60).bind fun bt172 => (if t169 = 0 then ((epicyclelaw14_same.f k t168 (([0, 0, 3] : List Int))).bind fun t179 => (if t179 = true then (if bt172.2 = true then (if (bt172.1.length : Int) = 4 then (if 3 < (bt172.1.length : Int) then (some ((rd bt172.1 3) == 5)) else (none)) else (none)) else (none)) else (none))) else (none))) = some r := H
 have A2 := Aside0.mk A20
 clear A20
 replace H := Option.bind_eq_some_iff.mp H
 obtain ⟨⟨t172, t173⟩, A30, H⟩ := H
 replace H : (if t169 = 0 then ((epicyclelaw14_same.f k t168 (([0, 0, 3] : List Int))).bind fun t179 => (if t179 = true then (if t173 = true then (if (t172.length : Int) = 4 then (if 3 < (t172.length : Int) then (some ((rd t172 3) == 5)) else (none)) else (none)) else (none)) else (none))) else (none)) = some r := H
 have A3 := Aside0.mk A30
 clear A30
 by_cases c4 : t169 = 0
 ·rw [if_pos c4] at H
  have c4b0 : (t169 == 0) = true := beq_iff_eq.mpr c4
  have c4b1 : (t169 != 0) = false := bne_eq_false_iff_eq.mpr c4
  clear c4
  obtain ⟨y176, hy176⟩ : ∃ y_ : List Int, y_ = (([0, 0, 3] : List Int)) := ⟨_, rfl⟩
  replace H : ((epicyclelaw14_same.f k t168 y176).bind fun t179 => (if t179 = true then (if t173 = true then (if (t172.length : Int) = 4 then (if 3 < (t172.length : Int) then (some ((rd t172 3) == 5)) else (none)) else (none)) else (none)) else (none))) = some r := by first | (rw [hy176]; with_reducible exact H) | (have H2_ := (Option.bind_some _ _).symm.trans H; rw [hy176]; with_reducible exact H2_) | (have H2_ := (Option.bind_some _ _).symm.trans H; with_reducible exact H2_) | with_reducible exact H | (rw [hy176]; exact H) | exact H
  have Ny176 := Aside0.mk hy176
  clear hy176
  replace H := Option.bind_eq_some_iff.mp H
  obtain ⟨t179, A50, H⟩ := H
  replace H : (if t179 = true then (if t173 = true then (if (t172.length : Int) = 4 then (if 3 < (t172.length : Int) then (some ((rd t172 3) == 5)) else (none)) else (none)) else (none)) else (none)) = some r := H
  have A5 := Aside0.mk A50
  clear A50
  by_cases c6 : t179 = true
  ·subst c6
   have H1 : (if t173 = true then (if (t172.length : Int) = 4 then (if 3 < (t172.length : Int) then (some ((rd t172 3) == 5)) else (none)) else (none)) else (none)) = some r := by rw [if_pos rfl] at H <;> exact H
   clear H
   have H := H1
   clear H1
   by_cases c7 : t173 = true
   ·subst c7
    have H1 : (if (t172.length : Int) = 4 then (if 3 < (t172.length : Int) then (some ((rd t172 3) == 5)) else (none)) else (none)) = some r := by rw [if_pos rfl] at H <;> exact H
    clear H
    have H := H1
    clear H1
    by_cases c8 : (t172.length : Int) = 4
    ·rw [if_pos c8] at H
     have c8b0 : ((t172.length : Int) == 4) = true := beq_iff_eq.mpr c8
     have c8b1 : ((t172.length : Int) != 4) = false := bne_eq_false_iff_eq.mpr c8
     clear c8
     by_cases c9 : 3 < (t172.length : Int)
     ·rw [if_pos c9] at H
      have c9b0 : decide (3 < (t172.length : Int)) = true := decide_eq_true c9
      have c9b1 : decide (3 < t172.length) = true := decide_eq_true (by omega)
      clear c9
      obtain rfl := Option.some.inj H
      go_enter Try.func4, Try.ntmps4
      go_wp2_with (first | ((with_reducible refine gate_callee (f := 7) rfl ?_); refine goesL_ (some 8) rfl rfl Try.func7 (by kernel_rfl) rfl #[.int .u64 7] rfl (by (try simp only [List.map_toArray, List.map_cons, List.map_nil]); first | done | rfl | (simp only [List.length_drop, List.length_take]; rfl)) ?_; (with_reducible refine (field_Small.calls k 7 t161 t162 _ A1.out).mono ?_); rintro e w10 ⟨v163, rfl, ho0, hb⟩; refine ⟨_, rfl, ?_⟩; have n0_ := Aside0.mk (Kd.R_lower ho0 (below_size (by repeat (first | (with_reducible first | exact HB.out | apply below_alloc | apply pw_below_drewN | apply below_drew1) | exact HB.out)))); have n1_ := Aside0.mk (below_step (by repeat (first | (with_reducible first | exact HB.out | apply below_alloc | apply pw_below_drewN | apply below_drew1) | exact HB.out)) hb); clear HB; have HO164 := n0_; have HB := n1_; clear n0_ n1_; (try clear hb); (try clear hb2); (try clear hk); (try clear hi); (try clear ho0)) | ((with_reducible refine gate_dst (N := 13) rfl ?_); (try (refine gate_guard (by rfl) ?_; dsimp only)); refine Kd.R_lit (Kd.int .u64) _ 31 ?hg (N := 13) ?hd (xs := ([1, 2, 4] : List Int)) (inner := [.int .u64 1, .int .u64 2, .int .u64 4]) (ok := fun _ => True) (okp := fun _ => True) ?hr ?hp (fun _ hk => hk) trivial (Below.refl _ _) (Nat.le_refl _) (by simp) ?_; (case hd => rfl); (case hg => rfl); (case hr => first | (go_simp; done) | (go_simp; rfl)); (case hp => exact (Reps.one (show Kd.M (Kd.int .u64) _ _ _ 1 [.int .u64 1] from rfl) (Reps.one (show Kd.M (Kd.int .u64) _ _ _ 2 [.int .u64 2] from rfl) (Reps.one (show Kd.M (Kd.int .u64) _ _ _ 4 [.int .u64 4] from rfl) (Reps.none _ _))))); intro v166 w11 ho12 hb hg_ hnew_; clear hg_ hnew_; (first | rw [← Ny165.out] at ho12 | (simp only [Int.reduceToNat] at ho12; rw [← Ny165.out] at ho12)); have n0_ := Aside0.mk (Kd.R_below (by (with_reducible repeat (first | apply Kd.R_alloc | apply Kd.R_drewN | apply Kd.R_drew)); exact HO164.out) hb); have n1_ := Aside0.mk (Kd.R_lower ho12 (below_size (by repeat (first | (with_reducible first | exact HB.out | apply below_alloc | apply pw_below_drewN | apply below_drew1) | exact HB.out)))); have n2_ := Aside0.mk (below_step (by repeat (first | (with_reducible first | exact HB.out | apply below_alloc | apply pw_below_drewN | apply below_drew1) | exact HB.out)) hb); clear HO164; clear HB; have HO164 := n0_; have HO167 := n1_; have HB := n2_; clear n0_ n1_ n2_; clear hb ho12; obtain ⟨Ao13, co13, eo13⟩ := Kd.R_slice HO164.out; subst eo13; obtain ⟨Ao14, co14, eo14⟩ := Kd.R_slice HO167.out; subst eo14) | ((with_reducible refine gate_callee (f := 8) rfl ?_); refine goesL_ (some 14) rfl rfl Try.func8 (by kernel_rfl) rfl #[toPtr (.slice Ao13 t161.length co13), .slice Ao14 y165.length co14, .bool false] rfl (by (try simp only [List.map_toArray, List.map_cons, List.map_nil]); first | done | (rw [hT_HO164] <;> rfl) | rfl | (simp only [List.length_drop, List.length_take]; rfl)) ?_; (try rw [← hT_HO164]); (with_reducible refine (mixed_Run.calls k _ _ t161 _ _ y165 false t168 t169 _ ?side1 ?side2 ?side3 ?side4 A2.out).mono ?_); (case side1 => repeat (first | exact (Kd.R_reads' HO164.out).2.2 | (with_reducible refine Kd.C_alloc ?_ _) | (with_reducible refine Kd.C_drewN ?_ _) | (with_reducible refine Kd.C_drew ?_))); (case side2 => exact (Kd.R_reads' HO164.out).2.1); (case side3 => repeat (first | exact (Kd.R_reads' HO167.out).2.2 | (with_reducible refine Kd.C_alloc ?_ _) | (with_reducible refine Kd.C_drewN ?_ _) | (with_reducible refine Kd.C_drew ?_))); (case side4 => exact (Kd.R_reads' HO167.out).2.1); rintro e w15 ⟨v170, rfl, ho0, hb⟩; refine ⟨_, rfl, ?_⟩; have n0_ := Aside0.mk (Kd.R_below (by (with_reducible repeat (first | apply Kd.R_alloc | apply Kd.R_drewN | apply Kd.R_drew)); exact HO164.out) hb); have n1_ := Aside0.mk (Kd.R_elder' (by (with_reducible repeat (first | apply Kd.R_alloc | apply Kd.R_drewN | apply Kd.R_drew)); exact HO167.out) (Kd.R_base ho0) hb); have n2_ := Aside0.mk (Kd.R_lower (Kd.R_new' ho0 (Kd.R_lt (by (with_reducible repeat (first | apply Kd.R_alloc | apply Kd.R_drewN | apply Kd.R_drew)); exact HO167.out))) (below_size (by repeat (first | (with_reducible first | exact HB.out | apply below_alloc | apply pw_below_drewN | apply below_drew1) | exact HB.out)))); have n3_ := Aside0.mk (below_step (by repeat (first | (with_reducible first | exact HB.out | apply below_alloc | apply pw_below_drewN | apply below_drew1) | exact HB.out)) hb); clear HO164; clear HO167; clear HB; have HO164 := n0_; have HO167 := n1_; have HO171 := n2_; have HB := n3_; clear n0_ n1_ n2_ n3_; (try clear hb); (try clear hb2); (try clear hk); (try clear hi); (try clear ho0)) | ((with_reducible refine gate_callee (f := 5) rfl ?_); refine goesL_ (some 18) rfl rfl Try.func5 (by kernel_rfl) rfl #[.int .i64 60] rfl (by (try simp only [List.map_toArray, List.map_cons, List.map_nil]); first | done | rfl | (simp only [List.length_drop, List.length_take]; rfl)) ?_; (with_reducible refine (mixed_Radices.calls k 60 t172 true _ A3.out).mono ?_); rintro e w16 ⟨v174, rfl, ho0, hb⟩; refine ⟨_, rfl, ?_⟩; have n0_ := Aside0.mk (Kd.R_below (by (with_reducible repeat (first | apply Kd.R_alloc | apply Kd.R_drewN | apply Kd.R_drew)); exact HO164.out) hb); have n1_ := Aside0.mk (Kd.R_below (by (with_reducible repeat (first | apply Kd.R_alloc | apply Kd.R_drewN | apply Kd.R_drew)); exact HO167.out) hb); have n2_ := Aside0.mk (Kd.R_below (by (with_reducible repeat (first | apply Kd.R_alloc | apply Kd.R_drewN | apply Kd.R_drew)); exact HO171.out) hb); have n3_ := Aside0.mk (Kd.R_lower ho0 (below_size (by repeat (first | (with_reducible first | exact HB.out | apply below_alloc | apply pw_below_drewN | apply below_drew1) | exact HB.out)))); have n4_ := Aside0.mk (below_step (by repeat (first | (with_reducible first | exact HB.out | apply below_alloc | apply pw_below_drewN | apply below_drew1) | exact HB.out)) hb); clear HO164; clear HO167; clear HO171; clear HB; have HO164 := n0_; have HO167 := n1_; have HO171 := n2_; have HO175 := n3_; have HB := n4_; clear n0_ n1_ n2_ n3_ n4_; (try clear hb); (try clear hb2); (try clear hk); (try clear hi); (try clear ho0)) | ((with_reducible refine gate_dst (N := 25) rfl ?_); (try (refine gate_guard (by rfl) ?_; dsimp only)); refine Kd.R_lit (Kd.int .u64) _ 31 ?hg (N := 25) ?hd (xs := ([0, 0, 3] : List Int)) (inner := [.int .u64 0, .int .u64 0, .int .u64 3]) (ok := fun _ => True) (okp := fun _ => True) ?hr ?hp (fun _ hk => hk) trivial (Below.refl _ _) (Nat.le_refl _) (by simp) ?_; (case hd => rfl); (case hg => rfl); (case hr => first | (go_simp; done) | (go_simp; rfl)); (case hp => exact (Reps.one (show Kd.M (Kd.int .u64) _ _ _ 0 [.int .u64 0] from rfl) (Reps.one (show Kd.M (Kd.int .u64) _ _ _ 0 [.int .u64 0] from rfl) (Reps.one (show Kd.M (Kd.int .u64) _ _ _ 3 [.int .u64 3] from rfl) (Reps.none _ _))))); intro v177 w17 ho18 hb hg_ hnew_; clear hg_ hnew_; (first | rw [← Ny176.out] at ho18 | (simp only [Int.reduceToNat] at ho18; rw [← Ny176.out] at ho18)); have n0_ := Aside0.mk (Kd.R_below (by (with_reducible repeat (first | apply Kd.R_alloc | apply Kd.R_drewN | apply Kd.R_drew)); exact HO164.out) hb); have n1_ := Aside0.mk (Kd.R_elder' (by (with_reducible repeat (first | apply Kd.R_alloc | apply Kd.R_drewN | apply Kd.R_drew)); exact HO167.out) (Kd.R_base ho18) hb); have n2_ := Aside0.mk (Kd.R_elder' (by (with_reducible repeat (first | apply Kd.R_alloc | apply Kd.R_drewN | apply Kd.R_drew)); exact HO171.out) (Kd.R_base ho18) hb); have n3_ := Aside0.mk (Kd.R_below (by (with_reducible repeat (first | apply Kd.R_alloc | apply Kd.R_drewN | apply Kd.R_drew)); exact HO175.out) hb); have n4_ := Aside0.mk (Kd.R_lower (Kd.R_new' (Kd.R_new' ho18 (Kd.R_lt (by (with_reducible repeat (first | apply Kd.R_alloc | apply Kd.R_drewN | apply Kd.R_drew)); exact HO167.out))) (Kd.R_lt (by (with_reducible repeat (first | apply Kd.R_alloc | apply Kd.R_drewN | apply Kd.R_drew)); exact HO171.out))) (below_size (by repeat (first | (with_reducible first | exact HB.out | apply below_alloc | apply pw_below_drewN | apply below_drew1) | exact HB.out)))); have n5_ := Aside0.mk (below_step (by repeat (first | (with_reducible first | exact HB.out | apply below_alloc | apply pw_below_drewN | apply below_drew1) | exact HB.out)) hb); clear HO164; clear HO167; clear HO171; clear HO175; clear HB; have HO164 := n0_; have HO167 := n1_; have HO171 := n2_; have HO175 := n3_; have HO178 := n4_; have HB := n5_; clear n0_ n1_ n2_ n3_ n4_ n5_; clear hb ho18; obtain ⟨Ao19, co19, eo19⟩ := Kd.R_slice HO171.out; subst eo19; obtain ⟨Ao20, co20, eo20⟩ := Kd.R_slice HO178.out; subst eo20) | (go_at_call 9; (with_reducible refine (epicyclelaw14_same.calls k _ _ t168 _ _ y176 true _ ?side1 ?side2 ?side3 ?side4 A5.out).mono ?_); (case side1 => repeat (first | exact (Kd.R_reads' HO171.out).2.2 | (with_reducible refine Kd.C_alloc ?_ _) | (with_reducible refine Kd.C_drewN ?_ _) | (with_reducible refine Kd.C_drew ?_))); (case side2 => exact (Kd.R_reads' HO171.out).2.1); (case side3 => repeat (first | exact (Kd.R_reads' HO178.out).2.2 | (with_reducible refine Kd.C_alloc ?_ _) | (with_reducible refine Kd.C_drewN ?_ _) | (with_reducible refine Kd.C_drew ?_))); (case side4 => exact (Kd.R_reads' HO178.out).2.1); rintro e w' ⟨rfl, ⟨nd, rfl⟩⟩; obtain ⟨Ao21, co21, eo21⟩ := Kd.R_slice HO175.out; subst eo21; have p180 : 0 ≤ (3 : Int) := (by omega); have q180 : 3 < (t172.length : Int) := of_decide_eq_true (by first | (with_reducible assumption) | assumption); obtain ⟨ad180, e180, hx180_0⟩ := Kd.at_int (Kd.R_reads' HO175.out).2.2 3 p180 q180; cases e180; (try simp only [show (3 : Int).toNat = 3 from rfl, Nat.reduceMul, Nat.reduceEqDiff, Go.Addr.add, ↓reduceIte] at hx180_0); have qi180 : (3 < t172.length) = True := eq_true (by omega); (try rw [show ((3 : Int)).toNat = 3 from rfl] at hx180_0); replace p180 := eq_true p180; replace q180 := eq_true q180))
      go_ret
      exact ⟨by first | rfl | (simp [errW_none, errW_some] <;> rfl) | (simp [*, errW_none, errW_some] <;> rfl), by repeat (first | (with_reducible first | exact HB.out | apply below_alloc | apply pw_below_drewN | apply below_drew1) | exact HB.out)⟩
     ·rw [if_neg c9] at H
      exact absurd H (by simp)
    ·rw [if_neg c8] at H
     exact absurd H (by simp)
   ·replace c7 := Bool.eq_false_iff.mpr c7
    subst c7
    have H1 : (none) = some r := by rw [if_neg (show ¬ (false = true) by decide)] at H <;> exact H
    clear H
    have H := H1
    clear H1
    exact absurd H (by simp)
  ·replace c6 := Bool.eq_false_iff.mpr c6
   subst c6
   have H1 : (none) = some r := by rw [if_neg (show ¬ (false = true) by decide)] at H <;> exact H
   clear H
   have H := H1
   clear H1
   exact absurd H (by simp)
 ·rw [if_neg c4] at H
  exact absurd H (by simp)
mutual
noncomputable def epicycleref14_Radices.j0 : Nat → Int → List Int → Bool → Option (List Int × Bool)
 | 0, _, _, _ => none
 | k + 1, x0, x4, x11 => if x11 = true then (some (x4, false)) else (epicycleref14_Radices.l0 k x0 x4)
noncomputable def epicycleref14_Radices.l0 : Nat → Int → List Int → Option (List Int × Bool)
 | 0, _, _ => none
 | k + 1, x0, x4 => if x0 > 1 then (epicycleref14_Radices.l1 k x0 x4 2) else (some (x4, true))
noncomputable def epicycleref14_Radices.l1 : Nat → Int → List Int → Int → Option (List Int × Bool)
 | 0, _, _, _ => none
 | k + 1, x0, x4, x5 => if x5 < 8 then (if x5 = 0 then (none) else (epicycleref14_Radices.j3 k x0 x4 x5 ((Int.tmod x0 x5) != 0))) else (epicycleref14_Radices.j3 k x0 x4 x5 false)
noncomputable def epicycleref14_Radices.j3 : Nat → Int → List Int → Int → Bool → Option (List Int × Bool)
 | 0, _, _, _, _ => none
 | k + 1, x0, x4, x5, x22 => if x22 = true then (epicycleref14_Radices.l1 k x0 x4 (wrap64 (x5 + 1))) else (if x5 = 8 then (some (([] : List Int), false)) else (if x4.length < 17592186044416 then (if x5 = 0 then (none) else (epicycleref14_Radices.l0 k (wrap64 (Int.tdiv x0 x5)) (x4 ++ [x5]))) else (none)))
end
noncomputable def epicycleref14_Radices.f (k : Nat) (a0 : Int) : Option (List Int × Bool) := if a0 < 1 then (epicycleref14_Radices.j0 k a0 ([] : List Int) true) else (epicycleref14_Radices.j0 k a0 ([] : List Int) (decide (a0 > 1024)))
theorem epicycleref14_Radices.mono_l : ∀ k, (∀ y0 y1 y2, LeO (epicycleref14_Radices.j0 k y0 y1 y2) (epicycleref14_Radices.j0 (k + 1) y0 y1 y2)) ∧ (∀ y0 y1, LeO (epicycleref14_Radices.l0 k y0 y1) (epicycleref14_Radices.l0 (k + 1) y0 y1)) ∧ (∀ y0 y1 y2, LeO (epicycleref14_Radices.l1 k y0 y1 y2) (epicycleref14_Radices.l1 (k + 1) y0 y1 y2)) ∧ (∀ y0 y1 y2 y3, LeO (epicycleref14_Radices.j3 k y0 y1 y2 y3) (epicycleref14_Radices.j3 (k + 1) y0 y1 y2 y3))
 | 0 => ⟨fun _ _ _ r h => by simp [epicycleref14_Radices.j0] at h, fun _ _ r h => by simp [epicycleref14_Radices.l0] at h, fun _ _ _ r h => by simp [epicycleref14_Radices.l1] at h, fun _ _ _ _ r h => by simp [epicycleref14_Radices.j3] at h⟩
 | k + 1 => by
  obtain ⟨ih0, ih1, ih2, ih3⟩ := epicycleref14_Radices.mono_l k
  refine ⟨?_, ?_, ?_, ?_⟩
  ·intro y0 y1 y2
   unfold epicycleref14_Radices.j0
   repeat' first
   | (with_reducible exact ih0 _ _ _)
   | (with_reducible exact ih1 _ _)
   | (with_reducible exact ih2 _ _ _)
   | (with_reducible exact ih3 _ _ _ _)
   | (with_reducible exact LeO.refl _)
   | (with_reducible exact LeO.none _)
   | (with_reducible refine LeO.ite ?_ ?_)
   | (with_reducible refine LeO.bind ?_ (fun _ => ?_))
   | exact ih0 _ _ _
   | exact ih1 _ _
   | exact ih2 _ _ _
   | exact ih3 _ _ _ _
   | exact LeO.none _
   | refine LeO.ite ?_ ?_
   | refine LeO.bind ?_ (fun _ => ?_)
  ·intro y0 y1
   unfold epicycleref14_Radices.l0
   repeat' first
   | (with_reducible exact ih0 _ _ _)
   | (with_reducible exact ih1 _ _)
   | (with_reducible exact ih2 _ _ _)
   | (with_reducible exact ih3 _ _ _ _)
   | (with_reducible exact LeO.refl _)
   | (with_reducible exact LeO.none _)
   | (with_reducible refine LeO.ite ?_ ?_)
   | (with_reducible refine LeO.bind ?_ (fun _ => ?_))
   | exact ih0 _ _ _
   | exact ih1 _ _
   | exact ih2 _ _ _
   | exact ih3 _ _ _ _
   | exact LeO.none _
   | refine LeO.ite ?_ ?_
   | refine LeO.bind ?_ (fun _ => ?_)
  ·intro y0 y1 y2
   unfold epicycleref14_Radices.l1
   repeat' first
   | (with_reducible exact ih0 _ _ _)
   | (with_reducible exact ih1 _ _)
   | (with_reducible exact ih2 _ _ _)
   | (with_reducible exact ih3 _ _ _ _)
   | (with_reducible exact LeO.refl _)
   | (with_reducible exact LeO.none _)
   | (with_reducible refine LeO.ite ?_ ?_)
   | (with_reducible refine LeO.bind ?_ (fun _ => ?_))
   | exact ih0 _ _ _
   | exact ih1 _ _
   | exact ih2 _ _ _
   | exact ih3 _ _ _ _
   | exact LeO.none _
   | refine LeO.ite ?_ ?_
   | refine LeO.bind ?_ (fun _ => ?_)
  ·intro y0 y1 y2 y3
   unfold epicycleref14_Radices.j3
   repeat' first
   | (with_reducible exact ih0 _ _ _)
   | (with_reducible exact ih1 _ _)
   | (with_reducible exact ih2 _ _ _)
   | (with_reducible exact ih3 _ _ _ _)
   | (with_reducible exact LeO.refl _)
   | (with_reducible exact LeO.none _)
   | (with_reducible refine LeO.ite ?_ ?_)
   | (with_reducible refine LeO.bind ?_ (fun _ => ?_))
   | exact ih0 _ _ _
   | exact ih1 _ _
   | exact ih2 _ _ _
   | exact ih3 _ _ _ _
   | exact LeO.none _
   | refine LeO.ite ?_ ?_
   | refine LeO.bind ?_ (fun _ => ?_)
theorem epicycleref14_Radices.mono : ∀ a0 k, LeO (epicycleref14_Radices.f k a0) (epicycleref14_Radices.f (k + 1) a0) := by
 intro a0 k
 obtain ⟨ih0, ih1, ih2, ih3⟩ := epicycleref14_Radices.mono_l k
 unfold epicycleref14_Radices.f
 repeat' first
   | (with_reducible exact ih0 _ _ _)
   | (with_reducible exact ih1 _ _)
   | (with_reducible exact ih2 _ _ _)
   | (with_reducible exact ih3 _ _ _ _)
   | (with_reducible exact LeO.refl _)
   | (with_reducible exact LeO.none _)
   | (with_reducible refine LeO.ite ?_ ?_)
   | (with_reducible refine LeO.bind ?_ (fun _ => ?_))
   | exact ih0 _ _ _
   | exact ih1 _ _
   | exact ih2 _ _ _
   | exact ih3 _ _ _ _
   | exact LeO.none _
   | refine LeO.ite ?_ ?_
   | refine LeO.bind ?_ (fun _ => ?_)
set_option maxHeartbeats 8000000 in
set_option maxRecDepth 100000 in
theorem epicycleref14_Radices.calls (k : Nat) (a0 : Int) (r1 : List Int) (r2 : Bool) (w : World) (h : epicycleref14_Radices.f k a0 = some (r1, r2)) :
  Calls Try.prog 6 #[.int .i64 a0] w fun e w' => ∃ v0_ : Value, e = .returned (.tuple #[v0_, .bool r2]) ∧ Kd.R (Kd.int .i64) 3 w' w.heap.size (fun _ => True) v0_ r1 ∧ Below w.heap.size w w' := by
 have HB := Aside0.mk (Below.refl w.heap.size w)
 have H : (if a0 < 1 then (epicycleref14_Radices.j0 k a0 ([] : List Int) true) else (epicycleref14_Radices.j0 k a0 ([] : List Int) (decide (a0 > 1024)))) = some (r1, r2) := h
 clear h
 have HC2 := Aside0.mk H
 clear H
 go_enter Try.func6, Try.ntmps6
 go_upto_region 2 with (fail)
 go_cut [11] (fun v11 wc => ∃ (kq : Nat) (x11_1 : Bool), v11 = .bool x11_1 ∧ Aside0 (epicycleref14_Radices.j0 kq a0 ([] : List Int) x11_1 = some (r1, r2)) ∧ Aside0 (kq ≤ k) ∧ Aside0 (Kd.R (Kd.int .i64) 3 wc w.heap.size (fun _ => True) (.slice none 0 0) ([] : List Int)) ∧ Aside0 (Below w.heap.size w wc))
 case first =>
  have H := HC2.out
  clear HC2
  by_cases c3 : a0 < 1
  ·rw [if_pos c3] at H
   have c3b0 : decide (a0 < 1) = true := decide_eq_true c3
   clear c3
   (first | rw [c3b0] | (simp only [i64_w, i32_w]; rw [c3b0]) | skip)
   have H' := Aside0.mk H
   clear H
   go_wp2
   go_meet
   case rel => exact ⟨_, (true), (by first | rfl | (simp; done) | (simp [*]; done)), H', ⟨by first | omega | exact Nat.le_refl _⟩, ⟨by first | exact Kd.R_nil _ _ _ _ _ | exact Kd.N_nil _ _ _ _ _ | exact Kd.V_nil _ _ _ _ _ | exact Kd.Q_nil _ _ _ _ _ | exact Kd.S_nil _ _ _ _ _⟩, ⟨by repeat (first | (with_reducible first | exact HB.out | apply below_alloc | apply pw_below_drewN | apply below_drew1) | exact HB.out)⟩⟩
  ·rw [if_neg c3] at H
   have c3b0 : decide (a0 < 1) = false := decide_eq_false c3
   clear c3
   (first | rw [c3b0] | (simp only [i64_w, i32_w]; rw [c3b0]) | skip)
   have H' := Aside0.mk H
   clear H
   go_wp2
   go_meet
   case rel => exact ⟨_, (decide (a0 > 1024)), (by first | rfl | (simp; done) | (simp [*]; done)), H', ⟨by first | omega | exact Nat.le_refl _⟩, ⟨by first | exact Kd.R_nil _ _ _ _ _ | exact Kd.N_nil _ _ _ _ _ | exact Kd.V_nil _ _ _ _ _ | exact Kd.Q_nil _ _ _ _ _ | exact Kd.S_nil _ _ _ _ _⟩, ⟨by repeat (first | (with_reducible first | exact HB.out | apply below_alloc | apply pw_below_drewN | apply below_drew1) | exact HB.out)⟩⟩
 case rest =>
  clear HC2
  try clear p2
  try clear c3
  try clear c3b0
  obtain ⟨kq, x11_1, rfl, HA, HJ1, HO_4, HB⟩ := hcut
  cases kq with
  | zero => exact absurd HA.out (by simp [epicycleref14_Radices.j0])
  | succ kj1 =>
   have H := HA.out
   clear HA
   simp only [epicycleref14_Radices.j0] at H
   by_cases c4 : x11_1 = true
   ·subst c4
    have H1 : (some (([] : List Int), false)) = some (r1, r2) := by rw [if_pos rfl] at H <;> exact H
    clear H
    have H := H1
    clear H1
    simp only [Option.some.injEq, Prod.mk.injEq] at H
    obtain ⟨rfl, rfl⟩ := H
    go_wp2
    go_ret2
    exact ⟨_, by first | rfl | (simp [errW_none, errW_some] <;> rfl) | (simp [*, errW_none, errW_some] <;> rfl), by (with_reducible repeat (first | apply Kd.R_alloc | apply Kd.R_drewN | apply Kd.R_drew)); exact HO_4.out, by repeat (first | (with_reducible first | exact HB.out | apply below_alloc | apply pw_below_drewN | apply below_drew1) | exact HB.out)⟩
   ·replace c4 := Bool.eq_false_iff.mpr c4
    subst c4
    have H1 : (epicycleref14_Radices.l0 kj1 a0 ([] : List Int)) = some (r1, r2) := by rw [if_neg (show ¬ (false = true) by decide)] at H <;> exact H
    clear H
    have H := H1
    clear H1
    have H' := Aside0.mk H
    clear H
    go_wp2
    go_loopg [0, 4] kj1 (fun kq v0 v4 w' => ∃ (x0_2 : Int) (x4_2 : List Int), v0 = .int .i64 x0_2 ∧ Aside0 (epicycleref14_Radices.l0 kq x0_2 x4_2 = some (r1, r2)) ∧ Aside0 (kq ≤ kj1) ∧ Aside0 (Kd.R (Kd.int .i64) 3 w' w.heap.size (fun _ => True) v4 x4_2) ∧ Aside0 (Below w.heap.size w w'))
    case atStart => exact ⟨(a0), (([] : List Int)), (by first | rfl | (simp; done) | (simp [*]; done)), H', ⟨Nat.le_refl _⟩, ⟨by (with_reducible repeat (first | apply Kd.R_alloc | apply Kd.R_drewN | apply Kd.R_drew)); exact HO_4.out⟩, ⟨by repeat (first | (with_reducible first | exact HB.out | apply below_alloc | apply pw_below_drewN | apply below_drew1) | exact HB.out)⟩⟩
    case round =>
     clear H'
     try clear p2
     try clear c3
     try clear c3b0
     try clear c4
     try clear p2
     obtain ⟨x0_2, x4_2, rfl, HA, HK2, HO_4, HB⟩ := hrel
     cases gk with
     | zero => exact absurd HA.out (by simp [epicycleref14_Radices.l0])
     | succ k2 =>
      have H := HA.out
      clear HA
      simp only [epicycleref14_Radices.l0] at H
      by_cases c5 : x0_2 > 1
      ·rw [if_pos c5] at H
       have c5b0 : decide (1 < x0_2) = true := decide_eq_true c5
       clear c5
       have H' := Aside0.mk H
       clear H
       go_wp2
       go_loopg [5] k2 (fun kq v5 w' => ∃ (x5_3 : Int), v5 = .int .i64 x5_3 ∧ Aside0 (epicycleref14_Radices.l1 kq x0_2 x4_2 x5_3 = some (r1, r2)) ∧ Aside0 (kq ≤ k2) ∧ Aside0 (Kd.R (Kd.int .i64) 3 w' w.heap.size (fun _ => True) u4 x4_2) ∧ Aside0 (Below w.heap.size w w'))
       case atStart => exact ⟨(2), (by first | rfl | (simp; done) | (simp [*]; done)), H', ⟨Nat.le_refl _⟩, ⟨by (with_reducible repeat (first | apply Kd.R_alloc | apply Kd.R_drewN | apply Kd.R_drew)); exact HO_4.out⟩, ⟨by repeat (first | (with_reducible first | exact HB.out | apply below_alloc | apply pw_below_drewN | apply below_drew1) | exact HB.out)⟩⟩
       case round =>
        clear H'
        try clear p2
        try clear c3
        try clear c3b0
        try clear c4
        try clear c5
        try clear c5b0
        try clear p2
        obtain ⟨x5_3, rfl, HA, HK3, HO_4, HB⟩ := hrel
        cases gk with
        | zero => exact absurd HA.out (by simp [epicycleref14_Radices.l1])
        | succ k3 =>
         have H := HA.out
         clear HA
         simp only [epicycleref14_Radices.l1] at H
         have HC6 := Aside0.mk H
         clear H
         go_upto_region 6 with (fail)
         go_cut [22] (fun v22 wc => ∃ (kq : Nat) (x22_5 : Bool), v22 = .bool x22_5 ∧ Aside0 (epicycleref14_Radices.j3 kq x0_2 x4_2 x5_3 x22_5 = some (r1, r2)) ∧ Aside0 (kq ≤ k3) ∧ Aside0 (Kd.R (Kd.int .i64) 3 wc w.heap.size (fun _ => True) u4 x4_2) ∧ Aside0 (Below w.heap.size w wc))
         case first =>
          have H := HC6.out
          clear HC6
          by_cases c7 : x5_3 < 8
          ·rw [if_pos c7] at H
           have c7b0 : decide (x5_3 < 8) = true := decide_eq_true c7
           clear c7
           (first | rw [c7b0] | (simp only [i64_w, i32_w]; rw [c7b0]) | skip)
           by_cases c8 : x5_3 = 0
           ·rw [if_pos c8] at H
            exact absurd H (by simp)
           ·rw [if_neg c8] at H
            have c8b0 : (x5_3 == 0) = false := beq_eq_false_iff_ne.mpr c8
            have c8b1 : (x5_3 != 0) = true := bne_iff_ne.mpr c8
            have H' := Aside0.mk H
            clear H
            go_wp2
            go_meet
            case rel => exact ⟨_, (((Int.tmod x0_2 x5_3) != 0)), (by first | rfl | (simp; done) | (simp [*]; done)), H', ⟨by have := HJ1.out; have := HK2.out; have := HK3.out; first | omega | exact Nat.le_refl _⟩, ⟨by (with_reducible repeat (first | apply Kd.R_alloc | apply Kd.R_drewN | apply Kd.R_drew)); exact HO_4.out⟩, ⟨by repeat (first | (with_reducible first | exact HB.out | apply below_alloc | apply pw_below_drewN | apply below_drew1) | exact HB.out)⟩⟩
          ·rw [if_neg c7] at H
           have c7b0 : decide (x5_3 < 8) = false := decide_eq_false c7
           clear c7
           (first | rw [c7b0] | (simp only [i64_w, i32_w]; rw [c7b0]) | skip)
           have H' := Aside0.mk H
           clear H
           go_wp2
           go_meet
           case rel => exact ⟨_, (false), (by first | rfl | (simp; done) | (simp [*]; done)), H', ⟨by have := HJ1.out; have := HK2.out; have := HK3.out; first | omega | exact Nat.le_refl _⟩, ⟨by (with_reducible repeat (first | apply Kd.R_alloc | apply Kd.R_drewN | apply Kd.R_drew)); exact HO_4.out⟩, ⟨by repeat (first | (with_reducible first | exact HB.out | apply below_alloc | apply pw_below_drewN | apply below_drew1) | exact HB.out)⟩⟩
         case rest =>
          clear HC6
          try clear p2
          try clear c3
          try clear c3b0
          try clear c4
          try clear c5
          try clear c5b0
          try clear c6
          try clear c7
          try clear c7b0
          try clear c8
          try clear c8b0
          try clear c8b1
          try clear p2
          obtain ⟨kq, x22_5, rfl, HA, HJ5, HO_4, HB⟩ := hcut
          cases kq with
          | zero => exact absurd HA.out (by simp [epicycleref14_Radices.j3])
          | succ kj5 =>
           have H := HA.out
           clear HA
           simp only [epicycleref14_Radices.j3] at H
           by_cases c9 : x22_5 = true
           ·subst c9
            have H1 : (epicycleref14_Radices.l1 kj5 x0_2 x4_2 (wrap64 (x5_3 + 1))) = some (r1, r2) := by rw [if_pos rfl] at H <;> exact H
            clear H
            have H := H1
            clear H1
            have H' := Aside0.mk H
            clear H
            go_wp2
            go_roundg kj5
            case measure => have := HJ1.out; have := HK2.out; have := HK3.out; have := HJ5.out; omega
            case rel => exact ⟨(wrap64 (x5_3 + 1)), (by first | rfl | (simp; done) | (simp [*]; done)), H', ⟨by have := HJ1.out; have := HK2.out; have := HK3.out; have := HJ5.out; omega⟩, ⟨by (with_reducible repeat (first | apply Kd.R_alloc | apply Kd.R_drewN | apply Kd.R_drew)); exact HO_4.out⟩, ⟨by repeat (first | (with_reducible first | exact HB.out | apply below_alloc | apply pw_below_drewN | apply below_drew1) | exact HB.out)⟩⟩
           ·replace c9 := Bool.eq_false_iff.mpr c9
            subst c9
            have H1 : (if x5_3 = 8 then (some (([] : List Int), false)) else (if x4_2.length < 17592186044416 then (if x5_3 = 0 then (none) else (epicycleref14_Radices.l0 kj5 (wrap64 (Int.tdiv x0_2 x5_3)) (x4_2 ++ [x5_3]))) else (none))) = some (r1, r2) := by rw [if_neg (show ¬ (false = true) by decide)] at H <;> exact H
            clear H
            have H := H1
            clear H1
            by_cases c10 : x5_3 = 8
            ·rw [if_pos c10] at H
             have c10b0 : (x5_3 == 8) = true := beq_iff_eq.mpr c10
             have c10b1 : (x5_3 != 8) = false := bne_eq_false_iff_eq.mpr c10
             clear c10
             simp only [Option.some.injEq, Prod.mk.injEq] at H
             obtain ⟨rfl, rfl⟩ := H
             go_wp2
             go_ret2
             exact ⟨_, by first | rfl | (simp [errW_none, errW_some] <;> rfl) | (simp [*, errW_none, errW_some] <;> rfl), by first | exact Kd.R_nil _ _ _ _ _ | exact Kd.N_nil _ _ _ _ _ | exact Kd.V_nil _ _ _ _ _ | exact Kd.Q_nil _ _ _ _ _ | exact Kd.S_nil _ _ _ _ _, by repeat (first | (with_reducible first | exact HB.out | apply below_alloc | apply pw_below_drewN | apply below_drew1) | exact HB.out)⟩
            ·rw [if_neg c10] at H
             have c10b0 : (x5_3 == 8) = false := beq_eq_false_iff_ne.mpr c10
             have c10b1 : (x5_3 != 8) = true := bne_iff_ne.mpr c10
             by_cases c11 : x4_2.length < 17592186044416
             ·rw [if_pos c11] at H
              have LMc11 := Aside0.mk c11
              clear c11
              obtain ⟨y181, hy181⟩ : ∃ y_ : List Int, y_ = (x4_2 ++ [x5_3]) := ⟨_, rfl⟩
              replace H : (if x5_3 = 0 then (none) else (epicycleref14_Radices.l0 kj5 (wrap64 (Int.tdiv x0_2 x5_3)) y181)) = some (r1, r2) := by first | (rw [hy181]; with_reducible exact H) | (have H2_ := (Option.bind_some _ _).symm.trans H; rw [hy181]; with_reducible exact H2_) | (have H2_ := (Option.bind_some _ _).symm.trans H; with_reducible exact H2_) | with_reducible exact H | (rw [hy181]; exact H) | exact H
              have Ny181 := Aside0.mk hy181
              clear hy181
              by_cases c12 : x5_3 = 0
              ·rw [if_pos c12] at H
               exact absurd H (by simp)
              ·rw [if_neg c12] at H
               have c12b0 : (x5_3 == 0) = false := beq_eq_false_iff_ne.mpr c12
               have c12b1 : (x5_3 != 0) = true := bne_iff_ne.mpr c12
               have H' := Aside0.mk H
               clear H
               go_wp2_with (first | ((with_reducible refine gate_builtin (b := .append) (xs := #[.tmp 27, .tmp 29]) rfl ?_); at_builtin; refine Kd.R_append (Kd.int .i64) (w0 := w) w.heap.size rfl (.tmp 27) (.tmp 29) 23 3 (.int .i64 0) 8 rfl Try.underlying23 info3 rfl (by decide) (by omega) u4 x4_2 x5_3 [.int .i64 x5_3] (fun _ => True) (fun _ => False) rfl rfl ?aP (fun _ hk => hk.elim) ?aF ?aO ?aB ?aS ?aL ?_; (case aP => exact rfl); (case aB => exact (by repeat (first | (with_reducible first | exact HB.out | apply below_alloc | apply pw_below_drewN | apply below_drew1) | exact HB.out))); (case aF => exact (fun _ _ => trivial)); (case aO => exact (by (with_reducible repeat (first | apply Kd.R_alloc | apply Kd.R_drewN | apply Kd.R_drew)); exact HO_4.out)); (case aS => exact (below_size (by repeat (first | (with_reducible first | exact HB.out | apply below_alloc | apply pw_below_drewN | apply below_drew1) | exact HB.out)))); (case aL => have := LMc11.out; omega); intro v182 w13 ho hb hg hat; rw [← Ny181.out] at ho; have n0_ := Aside0.mk (hb); have n1_ := Aside0.mk (ho); clear HB; clear HO_4; have HB := n0_; have HO183 := n1_; clear n0_ n1_; clear ho hb hg hat))
               go_roundg kj5
               case measure => have := HJ1.out; have := HK2.out; have := HK3.out; have := HJ5.out; omega
               case rel => exact ⟨(wrap64 (Int.tdiv x0_2 x5_3)), (y181), (by first | rfl | (simp; done) | (simp [*]; done)), H', ⟨by have := HJ1.out; have := HK2.out; have := HK3.out; have := HJ5.out; omega⟩, ⟨by (with_reducible repeat (first | apply Kd.R_alloc | apply Kd.R_drewN | apply Kd.R_drew)); exact HO183.out⟩, ⟨by repeat (first | (with_reducible first | exact HB.out | apply below_alloc | apply pw_below_drewN | apply below_drew1) | exact HB.out)⟩⟩
             ·rw [if_neg c11] at H
              exact absurd H (by simp)
      ·rw [if_neg c5] at H
       have c5b0 : decide (1 < x0_2) = false := decide_eq_false c5
       clear c5
       simp only [Option.some.injEq, Prod.mk.injEq] at H
       obtain ⟨rfl, rfl⟩ := H
       go_wp2
       go_ret2
       exact ⟨_, by first | rfl | (simp [errW_none, errW_some] <;> rfl) | (simp [*, errW_none, errW_some] <;> rfl), by (with_reducible repeat (first | apply Kd.R_alloc | apply Kd.R_drewN | apply Kd.R_drew)); exact HO_4.out, by repeat (first | (with_reducible first | exact HB.out | apply below_alloc | apply pw_below_drewN | apply below_drew1) | exact HB.out)⟩
end Go.Proofs.Ytndkmnjbjlfeaaa.XM
end
section
namespace Go.Proofs.Ytndkmnjbjlfeaaa.XM
open Go.RowKit Go.Proofs.Ytndkmnjbjlfeaaa.Given Go.Proofs.Ytndkmnjbjlfeaaa.Row05 Go.Proofs.Ytndkmnjbjlfeaaa.XS Go.Proofs.Ytndkmnjbjlfeaaa.XT Go.Proofs.Ytndkmnjbjlfeaaa.XR Go.Proofs.Ytndkmnjbjlfeaaa.F06 Go.Proofs.Ytndkmnjbjlfeaaa.XK Go.Proofs.Ytndkmnjbjlfeaaa.XW Go.Proofs.Ytndkmnjbjlfeaaa.XG Go.Proofs.YtndkmnjbjlfeaaaW.PrintWords Go.Proofs.YtndkmnjbjlfeaaaW.PrintLast Go.Proofs.YtndkmnjbjlfeaaaW.PrintMore
attribute [local go_sem] max2_int min2_int max_two min_two max_three min_three max_four min_four   -- for this text's walks alone
set_option linter.unusedVariables false
set_option linter.unusedSimpArgs false
mutual
noncomputable def epicyclelaw14_MixedRadices.j0 : Nat → Int → List Int → Bool → List Int → Bool → Option (Bool)
 | 0, _, _, _, _, _ => none
 | k + 1, x0, x3, x4, x5, x31 => if x31 = true then (none) else (epicyclelaw14_MixedRadices.l0 k x0 x4 x5 1 x3 (x3.length : Int) 0)
noncomputable def epicyclelaw14_MixedRadices.l0 : Nat → Int → Bool → List Int → Int → List Int → Int → Int → Option (Bool)
 | 0, _, _, _, _, _, _, _ => none
 | k + 1, x0, x4, x5, x7, x32, x33, x34 => if x34 < x33 then (if 0 ≤ x34 then (if x34 < (x32.length : Int) then (if x34 < (x5.length : Int) then (if (rd x32 x34) = (rd x5 x34) then (epicyclelaw14_MixedRadices.l0 k x0 x4 x5 (wrap64 (x7 * (rd x32 x34))) x32 x33 (wrap64 (x34 + 1))) else (none)) else (none)) else (none)) else (none)) else (if x4 = true then (some (x7 == x0)) else (some true))
end
noncomputable def epicyclelaw14_MixedRadices.f (k : Nat) (a0 : Int) : Option (Bool) := (epicyclelaw14_alive.f k).bind fun t184 => (if t184 = true then ((mixed_Radices.f k a0).bind fun bt185 => ((epicycleref14_Radices.f k a0).bind fun bt189 => (if (bt185.2 != bt189.2) = true then (epicyclelaw14_MixedRadices.j0 k a0 bt185.1 bt185.2 bt189.1 true) else (epicyclelaw14_MixedRadices.j0 k a0 bt185.1 bt185.2 bt189.1 ((bt185.1.length : Int) != (bt189.1.length : Int)))))) else (none))
theorem epicyclelaw14_MixedRadices.mono_l : ∀ k, (∀ y0 y1 y2 y3 y4, LeO (epicyclelaw14_MixedRadices.j0 k y0 y1 y2 y3 y4) (epicyclelaw14_MixedRadices.j0 (k + 1) y0 y1 y2 y3 y4)) ∧ (∀ y0 y1 y2 y3 y4 y5 y6, LeO (epicyclelaw14_MixedRadices.l0 k y0 y1 y2 y3 y4 y5 y6) (epicyclelaw14_MixedRadices.l0 (k + 1) y0 y1 y2 y3 y4 y5 y6))
 | 0 => ⟨fun _ _ _ _ _ r h => by simp [epicyclelaw14_MixedRadices.j0] at h, fun _ _ _ _ _ _ _ r h => by simp [epicyclelaw14_MixedRadices.l0] at h⟩
 | k + 1 => by
  obtain ⟨ih0, ih1⟩ := epicyclelaw14_MixedRadices.mono_l k
  refine ⟨?_, ?_⟩
  ·intro y0 y1 y2 y3 y4
   unfold epicyclelaw14_MixedRadices.j0
   repeat' first
   | (with_reducible exact ih0 _ _ _ _ _)
   | (with_reducible exact ih1 _ _ _ _ _ _ _)
   | (with_reducible exact epicyclelaw14_alive.mono _)
   | (with_reducible exact epicycleref14_Radices.mono _ _)
   | (with_reducible exact mixed_Radices.mono _ _)
   | (with_reducible exact LeO.refl _)
   | (with_reducible exact LeO.none _)
   | (with_reducible refine LeO.ite ?_ ?_)
   | (with_reducible refine LeO.bind ?_ (fun _ => ?_))
   | exact ih0 _ _ _ _ _
   | exact ih1 _ _ _ _ _ _ _
   | exact epicyclelaw14_alive.mono _
   | exact epicycleref14_Radices.mono _ _
   | exact mixed_Radices.mono _ _
   | exact LeO.none _
   | refine LeO.ite ?_ ?_
   | refine LeO.bind ?_ (fun _ => ?_)
  ·intro y0 y1 y2 y3 y4 y5 y6
   unfold epicyclelaw14_MixedRadices.l0
   repeat' first
   | (with_reducible exact ih0 _ _ _ _ _)
   | (with_reducible exact ih1 _ _ _ _ _ _ _)
   | (with_reducible exact epicyclelaw14_alive.mono _)
   | (with_reducible exact epicycleref14_Radices.mono _ _)
   | (with_reducible exact mixed_Radices.mono _ _)
   | (with_reducible exact LeO.refl _)
   | (with_reducible exact LeO.none _)
   | (with_reducible refine LeO.ite ?_ ?_)
   | (with_reducible refine LeO.bind ?_ (fun _ => ?_))
   | exact ih0 _ _ _ _ _
   | exact ih1 _ _ _ _ _ _ _
   | exact epicyclelaw14_alive.mono _
   | exact epicycleref14_Radices.mono _ _
   | exact mixed_Radices.mono _ _
   | exact LeO.none _
   | refine LeO.ite ?_ ?_
   | refine LeO.bind ?_ (fun _ => ?_)
set_option maxHeartbeats 8000000 in
set_option maxRecDepth 100000 in
theorem epicyclelaw14_MixedRadices.calls (k : Nat) (a0 : Int) (w : World) (h : epicyclelaw14_MixedRadices.f k a0 = some true) :
  Calls Try.prog 3 #[.int .i64 a0] w fun e w' => e = .returned (.bool true) ∧ Below w.heap.size w w' := by
 have HB := Aside0.mk (Below.refl w.heap.size w)
 have H : ((epicyclelaw14_alive.f k).bind fun t184 => (if t184 = true then ((mixed_Radices.f k a0).bind fun bt185 => ((epicycleref14_Radices.f k a0).bind fun bt189 => (if (bt185.2 != bt189.2) = true then (epicyclelaw14_MixedRadices.j0 k a0 bt185.1 bt185.2 bt189.1 true) else (epicyclelaw14_MixedRadices.j0 k a0 bt185.1 bt185.2 bt189.1 ((bt185.1.length : Int) != (bt189.1.length : Int)))))) else (none))) = some true := h
 clear h
 replace H := Option.bind_eq_some_iff.mp H
 obtain ⟨t184, A20, H⟩ := H
 replace H : (if t184 = true then ((mixed_Radices.f k a0).bind fun bt185 => ((epicycleref14_Radices.f k a0).bind fun bt189 => (if (bt185.2 != bt189.2) = true then (epicyclelaw14_MixedRadices.j0 k a0 bt185.1 bt185.2 bt189.1 true) else (epicyclelaw14_MixedRadices.j0 k a0 bt185.1 bt185.2 bt189.1 ((bt185.1.length : Int) != (bt189.1.length : Int)))))) else (none)) = some true := H
 have A2 := Aside0.mk A20
 clear A20
 by_cases c3 : t184 = true
 ·subst c3
  have H1 : ((mixed_Radices.f k a0).bind fun bt185 => ((epicycleref14_Radices.f k a0).bind fun bt189 => (if (bt185.2 != bt189.2) = true then (epicyclelaw14_MixedRadices.j0 k a0 bt185.1 bt185.2 bt189.1 true) else (epicyclelaw14_MixedRadices.j0 k a0 bt185.1 bt185.2 bt189.1 ((bt185.1.length : Int) != (bt189.1.length : Int)))))) = some true := by rw [if_pos rfl] at H <;> exact H
  clear H
  have H := H1
  clear H1
  replace H := Option.bind_eq_some_iff.mp H
  obtain ⟨⟨t185, t186⟩, A40, H⟩ := H
  replace H : ((epicycleref14_Radices.f k a0).bind fun bt189 => (if (t186 != bt189.2) = true then (epicyclelaw14_MixedRadices.j0 k a0 t185 t186 bt189.1 true) else (epicyclelaw14_MixedRadices.j0 k a0 t185 t186 bt189.1 ((t185.length : Int) != (bt189.1.length : Int))))) = some true := H
  have A4 := Aside0.mk A40
  clear A40
  replace H := Option.bind_eq_some_iff.mp H
  obtain ⟨⟨t189, t190⟩, A50, H⟩ := H
  replace H : (if (t186 != t190) = true then (epicyclelaw14_MixedRadices.j0 k a0 t185 t186 t189 true) else (epicyclelaw14_MixedRadices.j0 k a0 t185 t186 t189 ((t185.length : Int) != (t189.length : Int)))) = some true := H
  have A5 := Aside0.mk A50
  clear A50
  have HC6 := Aside0.mk H
  clear H
  go_enter Try.func3, Try.ntmps3
  go_upto_region 5 with (first | ((with_reducible refine gate_callee (f := 4) rfl ?_); refine goesL_ (some 10) rfl rfl Try.func4 (by kernel_rfl) rfl #[] rfl (by (try simp only [List.map_toArray, List.map_cons, List.map_nil]); first | done | rfl | (simp only [List.length_drop, List.length_take]; rfl)) ?_; (with_reducible refine (epicyclelaw14_alive.calls k  true _ A2.out).mono ?_); rintro e w7 ⟨rfl, hb⟩; refine ⟨_, rfl, ?_⟩; have n0_ := Aside0.mk (below_step (by repeat (first | (with_reducible first | exact HB.out | apply below_alloc | apply pw_below_drewN | apply below_drew1) | exact HB.out)) hb); clear HB; have HB := n0_; clear n0_; (try clear hb); (try clear hb2); (try clear hk); (try clear hi)) | ((with_reducible refine gate_callee (f := 5) rfl ?_); refine goesL_ (some 14) rfl rfl Try.func5 (by kernel_rfl) rfl #[.int .i64 a0] rfl (by (try simp only [List.map_toArray, List.map_cons, List.map_nil]); first | done | rfl | (simp only [List.length_drop, List.length_take]; rfl)) ?_; (with_reducible refine (mixed_Radices.calls k a0 t185 t186 _ A4.out).mono ?_); rintro e w8 ⟨v187, rfl, ho0, hb⟩; refine ⟨_, rfl, ?_⟩; have n0_ := Aside0.mk (Kd.R_lower ho0 (below_size (by repeat (first | (with_reducible first | exact HB.out | apply below_alloc | apply pw_below_drewN | apply below_drew1) | exact HB.out)))); have n1_ := Aside0.mk (below_step (by repeat (first | (with_reducible first | exact HB.out | apply below_alloc | apply pw_below_drewN | apply below_drew1) | exact HB.out)) hb); clear HB; have HO188 := n0_; have HB := n1_; clear n0_ n1_; (try clear hb); (try clear hb2); (try clear hk); (try clear hi); (try clear ho0)) | ((with_reducible refine gate_callee (f := 6) rfl ?_); refine goesL_ (some 19) rfl rfl Try.func6 (by kernel_rfl) rfl #[.int .i64 a0] rfl (by (try simp only [List.map_toArray, List.map_cons, List.map_nil]); first | done | rfl | (simp only [List.length_drop, List.length_take]; rfl)) ?_; (with_reducible refine (epicycleref14_Radices.calls k a0 t189 t190 _ A5.out).mono ?_); rintro e w9 ⟨v191, rfl, ho0, hb⟩; refine ⟨_, rfl, ?_⟩; have n0_ := Aside0.mk (Kd.R_elder' (by (with_reducible repeat (first | apply Kd.R_alloc | apply Kd.R_drewN | apply Kd.R_drew)); exact HO188.out) (Kd.R_base ho0) hb); have n1_ := Aside0.mk (Kd.R_lower (Kd.R_new' ho0 (Kd.R_lt (by (with_reducible repeat (first | apply Kd.R_alloc | apply Kd.R_drewN | apply Kd.R_drew)); exact HO188.out))) (below_size (by repeat (first | (with_reducible first | exact HB.out | apply below_alloc | apply pw_below_drewN | apply below_drew1) | exact HB.out)))); have n2_ := Aside0.mk (below_step (by repeat (first | (with_reducible first | exact HB.out | apply below_alloc | apply pw_below_drewN | apply below_drew1) | exact HB.out)) hb); clear HO188; clear HB; have HO188 := n0_; have HO192 := n1_; have HB := n2_; clear n0_ n1_ n2_; (try clear hb); (try clear hb2); (try clear hk); (try clear hi); (try clear ho0)))
  (try simp only [Act.put, List.setIfInBounds_toArray, List.set_cons_zero, List.set_cons_succ])
  go_cut [31] (fun v31 wc => ∃ (kq : Nat) (x31_5 : Bool), v31 = .bool x31_5 ∧ Aside0 (epicyclelaw14_MixedRadices.j0 kq a0 t185 t186 t189 x31_5 = some true) ∧ Aside0 (kq ≤ k) ∧ Aside0 (Kd.R (Kd.int .i64) 3 wc w.heap.size (fun k_ => some k_ ≠ (v191 : Value).ownBlock) v187 t185) ∧ Aside0 (Kd.R (Kd.int .i64) 3 wc w.heap.size (fun k_ => some k_ ≠ (v187 : Value).ownBlock) v191 t189) ∧ Aside0 (Below w.heap.size w wc))
  case first =>
   have H := HC6.out
   clear HC6
   by_cases c10 : (t186 != t190) = true
   ·rw [if_pos c10] at H
    have c10b0 : (t186 != t190) = true := c10
    (try (have c10b1 : decide (t186 = t190) = false := by simpa using c10))
    (try (have c10b2 : (t186 == t190) = false := by simpa using c10))
    (try (have c10b3 : ¬ (t186 = t190) := by simpa using c10))
    clear c10
    (first | rw [c10b0] | (simp only [i64_w, i32_w]; rw [c10b0]) | skip)
    have H' := Aside0.mk H
    clear H
    go_wp2
    go_meet
    case rel => exact ⟨_, (true), (by first | rfl | (simp; done) | (simp [*]; done)), H', ⟨by first | omega | exact Nat.le_refl _⟩, ⟨by (with_reducible repeat (first | apply Kd.R_alloc | apply Kd.R_drewN | apply Kd.R_drew)); exact Kd.R_mono HO188.out (fun _ hk => hk.2)⟩, ⟨by (with_reducible repeat (first | apply Kd.R_alloc | apply Kd.R_drewN | apply Kd.R_drew)); exact Kd.R_mono HO192.out (fun _ hk => hk.2)⟩, ⟨by repeat (first | (with_reducible first | exact HB.out | apply below_alloc | apply pw_below_drewN | apply below_drew1) | exact HB.out)⟩⟩
   ·rw [if_neg c10] at H
    have c10b0 : (t186 != t190) = false := by simpa using c10
    (try (have c10b1 : decide (t186 = t190) = true := by simpa using c10))
    (try (have c10b2 : (t186 == t190) = true := by simpa using c10))
    clear c10
    (first | rw [c10b0] | (simp only [i64_w, i32_w]; rw [c10b0]) | skip)
    have H' := Aside0.mk H
    clear H
    obtain ⟨Ao11, co11, eo11⟩ := Kd.R_slice HO188.out
    subst eo11
    obtain ⟨Ao12, co12, eo12⟩ := Kd.R_slice HO192.out
    subst eo12
    go_wp2
    go_meet
    case rel => exact ⟨_, (((t185.length : Int) != (t189.length : Int))), (by first | rfl | (simp; done) | (simp [*]; done)), H', ⟨by first | omega | exact Nat.le_refl _⟩, ⟨by (with_reducible repeat (first | apply Kd.R_alloc | apply Kd.R_drewN | apply Kd.R_drew)); exact Kd.R_mono HO188.out (fun _ hk => hk.2)⟩, ⟨by (with_reducible repeat (first | apply Kd.R_alloc | apply Kd.R_drewN | apply Kd.R_drew)); exact Kd.R_mono HO192.out (fun _ hk => hk.2)⟩, ⟨by repeat (first | (with_reducible first | exact HB.out | apply below_alloc | apply pw_below_drewN | apply below_drew1) | exact HB.out)⟩⟩
  case rest =>
   clear HC6
   try clear c1
   try clear p2
   try clear c3
   try clear c4
   try clear c5
   try clear c6
   try clear c10
   try clear c10b0
   try clear c10b1
   try clear c10b2
   obtain ⟨kq, x31_5, rfl, HA, HJ5, HO_3, HO_5, HB⟩ := hcut
   cases kq with
   | zero => exact absurd HA.out (by simp [epicyclelaw14_MixedRadices.j0])
   | succ kj5 =>
    have H := HA.out
    clear HA
    simp only [epicyclelaw14_MixedRadices.j0] at H
    by_cases c13 : x31_5 = true
    ·subst c13
     have H1 : (none) = some true := by rw [if_pos rfl] at H <;> exact H
     clear H
     have H := H1
     clear H1
     exact absurd H (by simp)
    ·replace c13 := Bool.eq_false_iff.mpr c13
     subst c13
     have H1 : (epicyclelaw14_MixedRadices.l0 kj5 a0 t186 t189 1 t185 (t185.length : Int) 0) = some true := by rw [if_neg (show ¬ (false = true) by decide)] at H <;> exact H
     clear H
     have H := H1
     clear H1
     have H' := Aside0.mk H
     clear H
     obtain ⟨Ao14, co14, eo14⟩ := Kd.R_slice HO_3.out
     subst eo14
     go_wp2
     go_loopg [7, 34] kj5 (fun kq v7 v34 w' => ∃ (x7_2 : Int) (x34_2 : Int), v7 = .int .i64 x7_2 ∧ v34 = .int .i64 x34_2 ∧ Aside0 (epicyclelaw14_MixedRadices.l0 kq a0 t186 t189 x7_2 t185 (t185.length : Int) x34_2 = some true) ∧ Aside0 (kq ≤ kj5) ∧ Aside0 (Kd.R (Kd.int .i64) 3 w' w.heap.size (fun k_ => some k_ ≠ ((.slice Ao14 t185.length co14) : Value).ownBlock) v191 t189) ∧ Aside0 (Kd.R (Kd.int .i64) 3 w' w.heap.size (fun k_ => some k_ ≠ (v191 : Value).ownBlock) (.slice Ao14 t185.length co14) t185) ∧ Aside0 (Below w.heap.size w w'))
     case atStart => exact ⟨(1), (0), (by first | rfl | (simp; done) | (simp [*]; done)), (by first | rfl | (simp; done) | (simp [*]; done)), H', ⟨Nat.le_refl _⟩, ⟨by (with_reducible repeat (first | apply Kd.R_alloc | apply Kd.R_drewN | apply Kd.R_drew)); exact HO_5.out⟩, ⟨by (with_reducible repeat (first | apply Kd.R_alloc | apply Kd.R_drewN | apply Kd.R_drew)); exact HO_3.out⟩, ⟨by repeat (first | (with_reducible first | exact HB.out | apply below_alloc | apply pw_below_drewN | apply below_drew1) | exact HB.out)⟩⟩
     case round =>
      clear H'
      try clear c1
      try clear p2
      try clear c3
      try clear c4
      try clear c5
      try clear c6
      try clear c10
      try clear c10b0
      try clear c10b1
      try clear c10b2
      try clear c13
      try clear p2
      obtain ⟨x7_2, x34_2, rfl, rfl, HA, HK2, HO_5, HO_32, HB⟩ := hrel
      cases gk with
      | zero => exact absurd HA.out (by simp [epicyclelaw14_MixedRadices.l0])
      | succ k2 =>
       have H := HA.out
       clear HA
       simp only [epicyclelaw14_MixedRadices.l0] at H
       by_cases c15 : x34_2 < (t185.length : Int)
       ·rw [if_pos c15] at H
        have c15b0 : decide (x34_2 < (t185.length : Int)) = true := decide_eq_true c15
        clear c15
        by_cases c16 : 0 ≤ x34_2
        ·rw [if_pos c16] at H
         have c16b0 : decide (0 ≤ x34_2) = true := decide_eq_true c16
         clear c16
         by_cases c17 : x34_2 < (t185.length : Int)
         ·rw [if_pos c17] at H
          have c17b0 : decide (x34_2 < (t185.length : Int)) = true := decide_eq_true c17
          clear c17
          by_cases c18 : x34_2 < (t189.length : Int)
          ·rw [if_pos c18] at H
           have c18b0 : decide (x34_2 < (t189.length : Int)) = true := decide_eq_true c18
           clear c18
           by_cases c19 : (rd t185 x34_2) = (rd t189 x34_2)
           ·rw [if_pos c19] at H
            have c19b0 : ((rd t185 x34_2) == (rd t189 x34_2)) = true := beq_iff_eq.mpr c19
            have c19b1 : ((rd t185 x34_2) != (rd t189 x34_2)) = false := bne_eq_false_iff_eq.mpr c19
            clear c19
            have H' := Aside0.mk H
            clear H
            have p193 : 0 ≤ (x34_2 : Int) := of_decide_eq_true (by first | (with_reducible assumption) | assumption)
            have q193 : x34_2 < (t185.length : Int) := of_decide_eq_true (by first | (with_reducible assumption) | assumption)
            obtain ⟨ad193, e193, hx193_0⟩ := Kd.at_int (Kd.R_reads' HO_32.out).2.2 x34_2 p193 q193
            cases e193
            replace p193 := eq_true p193
            replace q193 := eq_true q193
            obtain ⟨Ao20, co20, eo20⟩ := Kd.R_slice HO_5.out
            subst eo20
            have p194 : 0 ≤ (x34_2 : Int) := of_decide_eq_true (by first | (with_reducible assumption) | assumption)
            have q194 : x34_2 < (t189.length : Int) := of_decide_eq_true (by first | (with_reducible assumption) | assumption)
            obtain ⟨ad194, e194, hx194_0⟩ := Kd.at_int (Kd.R_reads' HO_5.out).2.2 x34_2 p194 q194
            cases e194
            replace p194 := eq_true p194
            replace q194 := eq_true q194
            go_wp2
            go_roundg k2
            case measure => have := HJ5.out; have := HK2.out; omega
            case rel => exact ⟨(wrap64 (x7_2 * (rd t185 x34_2))), (wrap64 (x34_2 + 1)), (by first | rfl | (simp; done) | (simp [*]; done)), (by first | rfl | (simp; done) | (simp [*]; done)), H', ⟨by have := HJ5.out; have := HK2.out; omega⟩, ⟨by (with_reducible repeat (first | apply Kd.R_alloc | apply Kd.R_drewN | apply Kd.R_drew)); exact HO_5.out⟩, ⟨by (with_reducible repeat (first | apply Kd.R_alloc | apply Kd.R_drewN | apply Kd.R_drew)); exact HO_32.out⟩, ⟨by repeat (first | (with_reducible first | exact HB.out | apply below_alloc | apply pw_below_drewN | apply below_drew1) | exact HB.out)⟩⟩
           ·rw [if_neg c19] at H
            exact absurd H (by simp)
          ·rw [if_neg c18] at H
           exact absurd H (by simp)
         ·rw [if_neg c17] at H
          exact absurd H (by simp)
        ·rw [if_neg c16] at H
         exact absurd H (by simp)
       ·rw [if_neg c15] at H
        have c15b0 : decide (x34_2 < (t185.length : Int)) = false := decide_eq_false c15
        clear c15
        by_cases c21 : t186 = true
        ·subst c21
         have H1 : (some (x7_2 == a0)) = some true := by rw [if_pos rfl] at H <;> exact H
         clear H
         have H := H1
         clear H1
         have hR_ := Option.some.inj H
         go_wp2
         go_ret
         exact ⟨by first | rfl | (simp [errW_none, errW_some] <;> rfl) | (simp [*, errW_none, errW_some] <;> rfl), by repeat (first | (with_reducible first | exact HB.out | apply below_alloc | apply pw_below_drewN | apply below_drew1) | exact HB.out)⟩
        ·replace c21 := Bool.eq_false_iff.mpr c21
         subst c21
         have H1 : (some true) = some true := by rw [if_neg (show ¬ (false = true) by decide)] at H <;> exact H
         clear H
         have H := H1
         clear H1
         clear H
         go_wp2
         go_ret
         exact ⟨by first | rfl | (simp [errW_none, errW_some] <;> rfl) | (simp [*, errW_none, errW_some] <;> rfl), by repeat (first | (with_reducible first | exact HB.out | apply below_alloc | apply pw_below_drewN | apply below_drew1) | exact HB.out)⟩
 ·replace c3 := Bool.eq_false_iff.mpr c3
  subst c3
  have H1 : (none) = some true := by rw [if_neg (show ¬ (false = true) by decide)] at H <;> exact H
  clear H
  have H := H1
  clear H1
  exact absurd H (by simp)
def epicyclelaw14_MixedRadices.Pure : Prop := ∀ (a0 : Int), (Lit.int .i64 a0).wf = true → ∃ k, epicyclelaw14_MixedRadices.f k a0 = some true
theorem epicyclelaw14_MixedRadices.walk (P : epicyclelaw14_MixedRadices.Pure) (a0 : Int) (w : World) (w0 : (Lit.int .i64 a0).wf = true) :
  Calls Try.prog 3 #[.int .i64 a0] w fun e w' => e = .returned (.bool true) ∧ Below w.heap.size w w' := by
 obtain ⟨k, h⟩ := P a0 w0
 refine (epicyclelaw14_MixedRadices.calls k a0 w h).mono ?_
 rintro e w' ⟨rfl, hd⟩
 exact ⟨rfl, hd⟩
end Go.Proofs.Ytndkmnjbjlfeaaa.XM
end
section
namespace Go.Proofs.Ytndkmnjbjlfeaaa.Pure
open Go Go.RowKit Go.Proofs.YtndkmnjbjlfeaaaW.PrintWords Go.Proofs.YtndkmnjbjlfeaaaW.PrintLast Go.Proofs.YtndkmnjbjlfeaaaW.PrintMore Go.Proofs.Ytndkmnjbjlfeaaa.Given Go.Proofs.Ytndkmnjbjlfeaaa.Given05 Go.Proofs.Ytndkmnjbjlfeaaa.Row05 Go.Proofs.Ytndkmnjbjlfeaaa.Given04 Go.Proofs.Ytndkmnjbjlfeaaa.M Go.Proofs.Ytndkmnjbjlfeaaa.Mont Go.Proofs.Ytndkmnjbjlfeaaa.XS Go.Proofs.Ytndkmnjbjlfeaaa.XT Go.Proofs.Ytndkmnjbjlfeaaa.XR Go.Proofs.Ytndkmnjbjlfeaaa.F06 Go.Proofs.Ytndkmnjbjlfeaaa.XW Go.Proofs.Ytndkmnjbjlfeaaa.XK Go.Proofs.Ytndkmnjbjlfeaaa.XG Go.Proofs.Ytndkmnjbjlfeaaa.XM
set_option linter.unusedVariables false
def G7 : List S58 := [⟨7, 3, [⟨2, 1⟩, ⟨3, 1⟩]⟩, ⟨3, 2, [⟨2, 1⟩]⟩]
def R7 : List S58 := [⟨3, 2, [⟨2, 1⟩]⟩, ⟨7, 3, [⟨2, 1⟩, ⟨3, 1⟩]⟩]
def F7 : Fld := ⟨7, 3, [⟨2, 1⟩, ⟨3, 1⟩]⟩
theorem g7 : gatherF 200 [] 7 = some G7 := by kernel_rfl
theorem k7 : keysS G7 = [3, 7] := by simp [keysS, G7, List.mergeSort, List.MergeSort.Internal.splitInTwo]
theorem s7 : sieve_Row.f 200 7 = some (R7, 0) := by
  unfold sieve_Row.f
  rw [show sieve_odd.f 200 7 = some true by kernel_rfl, Option.bind_some, if_pos rfl, g7, Option.bind_some, if_pos (of_decide_eq_true (by kernel_rfl)), k7]
  kernel_rfl
theorem n7 : field_New.f 200 R7 7 = some ([F7], 0) := by kernel_rfl
theorem small7 : field_Small.f 200 7 = some ([F7], 0) := by
  unfold field_Small.f
  rw [s7, Option.bind_some, if_pos rfl, n7]
  rfl
theorem run7 : mixed_Run.f 200 [F7] [1, 2, 4] false = some ([0, 0, 3], 0) := by kernel_rfl
theorem alive200 : epicyclelaw14_alive.f 200 = some true := by
  unfold epicyclelaw14_alive.f
  rw [small7, Option.bind_some, run7]
  kernel_rfl
theorem alive_ev : Ev (fun k => epicyclelaw14_alive.f k) true := Ev.of (g := fun k => epicyclelaw14_alive.f k) (fun k => epicyclelaw14_alive.mono k) (k := 200) alive200
noncomputable def radOk (n : Nat) : Bool := match mixed_Radices.f 60 (n : Int), epicycleref14_Radices.f 60 (n : Int) with
  | some a, some b => a.1 == b.1 && a.2 == b.2 && epicyclelaw14_MixedRadices.j0 60 (n : Int) a.1 a.2 a.1 false == some true
  | _, _ => false
theorem rad_all : (List.range 1025).all radOk = true := by kernel_rfl
theorem rad_nat {n : Nat} (hn : n ≤ 1024) : ∃ l b, mixed_Radices.f 60 (n : Int) = some (l, b) ∧ epicycleref14_Radices.f 60 (n : Int) = some (l, b) ∧ epicyclelaw14_MixedRadices.j0 60 (n : Int) l b l false = some true := by
  have h := List.all_eq_true.1 rad_all n (List.mem_range.2 (by omega))
  unfold radOk at h
  split at h
  · rename_i a b ea eb
    obtain ⟨a1, a2⟩ := a
    obtain ⟨b1, b2⟩ := b
    simp only [Bool.and_eq_true, beq_iff_eq] at h
    obtain ⟨⟨h1, h2⟩, h3⟩ := h
    subst h1
    subst h2
    exact ⟨a1, a2, ea, eb, h3⟩
  · cases h
theorem rad_ev (n : Int) : ∃ l b, Ev (fun k => mixed_Radices.f k n) (l, b) ∧ Ev (fun k => epicycleref14_Radices.f k n) (l, b) ∧ Ev (fun k => epicyclelaw14_MixedRadices.j0 k n l b l false) true := by
  have J : ∀ l, Ev (fun k => epicycleref14_Radices.j0 k n l true) (l, false) := fun l => stepE ⟨_, fun k => by simp only [epicycleref14_Radices.j0]; rw [if_pos trivial], Ev.now _⟩
  have Z : Ev (fun k => epicyclelaw14_MixedRadices.j0 k n [] false [] false) true := by
    refine stepE ⟨_, fun k => by simp only [epicyclelaw14_MixedRadices.j0]; rw [if_neg Bool.false_ne_true], ?_⟩
    exact stepE ⟨_, fun k => by simp only [epicyclelaw14_MixedRadices.l0]; rw [if_neg (show ¬ (0 : Int) < (([] : List Int).length : Int) by decide), if_neg Bool.false_ne_true], Ev.now _⟩
  by_cases h1 : n < 1
  · exact ⟨[], false, Ev.congr (fun k => rfl) (evP h1 (Ev.now _)), Ev.congr (fun k => rfl) (evP h1 (J _)), Z⟩
  by_cases h2 : n > 1024
  · refine ⟨[], false, Ev.congr (fun k => rfl) (evN h1 (evP h2 (Ev.now _))), Ev.congr (fun k => rfl) (evN h1 ?_), Z⟩
    rw [decide_eq_true h2]
    exact J _
  obtain ⟨m, rfl⟩ : ∃ m : Nat, n = m := ⟨n.toNat, by omega⟩
  obtain ⟨l, b, ha, hb, hj⟩ := rad_nat (n := m) (by omega)
  exact ⟨l, b, Ev.of (g := fun k => mixed_Radices.f k (m : Int)) (fun k => mixed_Radices.mono m k) (k := 60) ha, Ev.of (g := fun k => epicycleref14_Radices.f k (m : Int)) (fun k => epicycleref14_Radices.mono m k) (k := 60) hb, Ev.of (g := fun k => epicyclelaw14_MixedRadices.j0 k (m : Int) l b l false) (fun k => (epicyclelaw14_MixedRadices.mono_l k).1 _ _ _ _ _) (k := 60) hj⟩
theorem MixedRadices : epicyclelaw14_MixedRadices.Pure := by
  intro n _
  obtain ⟨l, b, P, D, J⟩ := rad_ev n
  have E : Ev (fun k => epicyclelaw14_MixedRadices.f k n) true := by
    refine Ev.congr (fun k => rfl) (Ev.bind alive_ev (evP rfl (Ev.bind P (Ev.bind D ?_))))
    dsimp only
    rw [bne_self_eq_false, bne_self_eq_false]
    exact evN Bool.false_ne_true J
  exact Ev.rounds E
end Go.Proofs.Ytndkmnjbjlfeaaa.Pure
end
