/- Parts of this claim's texts, packed by wip/tools/prune.py: what the proof does not reach is left out. -/
import Derived.Test.YtndkmnjbjlfeaaaGreatPH13
section
namespace Go.Proofs.YtndkmnjbjlfeaaaGreat.XG
open Go.RowKit Go.Proofs.YtndkmnjbjlfeaaaGreat.Given Go.Proofs.YtndkmnjbjlfeaaaGreat.Row05 Go.Proofs.YtndkmnjbjlfeaaaGreat.XS Go.Proofs.YtndkmnjbjlfeaaaGreat.XT Go.Proofs.YtndkmnjbjlfeaaaGreat.XR Go.Proofs.YtndkmnjbjlfeaaaGreat.F06 Go.Proofs.YtndkmnjbjlfeaaaGreat.XK Go.Proofs.YtndkmnjbjlfeaaaGreat.XW Go.Proofs.YtndkmnjbjlfeaaaGreatW.PrintWords Go.Proofs.YtndkmnjbjlfeaaaGreatW.PrintLast Go.Proofs.YtndkmnjbjlfeaaaGreatW.PrintMore
attribute [local go_sem] max2_int min2_int max_two min_two max_three min_three max_four min_four   -- for this text's walks alone
set_option linter.unusedVariables false
set_option linter.unusedSimpArgs false
mutual
noncomputable def epicyclelaw11_DftHelps.j0 : Nat → List Int → List (Fld) → Int → Bool → Option (Bool)
 | 0, _, _, _, _ => none
 | k + 1, x3, x9, x10, x70 => if x70 = true then (some false) else ((dft_Scale.f k x9 x3).bind fun t246 => (if (t246.length : Int) = (x3.length : Int) then (epicyclelaw11_DftHelps.l0 k x3 x10 t246 (t246.length : Int) 0) else (some false)))
noncomputable def epicyclelaw11_DftHelps.l0 : Nat → List Int → Int → List Int → Int → Int → Option (Bool)
 | 0, _, _, _, _, _ => none
 | k + 1, x3, x10, x79, x80, x81 => if x81 < x80 then (if 0 ≤ x81 then (if x81 < (x79.length : Int) then (if x10 = 0 then (none) else (if (Int.tmod (IntKind.u64.wrap ((x3.length : Int))) x10) = 0 then (if (rd x79 x81) = 0 then (epicyclelaw11_DftHelps.l0 k x3 x10 x79 x80 (wrap64 (x81 + 1))) else (some false)) else ((epicycleref02_Mul.f k (rd x79 x81) (IntKind.u64.wrap ((x3.length : Int))) x10).bind fun t250 => (if x81 < (x3.length : Int) then (if t250 = (Int.tmod (rd x3 x81) x10) then (epicyclelaw11_DftHelps.j2 k x3 x10 x79 x80 x81 (decide ((rd x79 x81) ≥ x10))) else (epicyclelaw11_DftHelps.j2 k x3 x10 x79 x80 x81 true)) else (none))))) else (none)) else (none)) else (some true)
noncomputable def epicyclelaw11_DftHelps.j2 : Nat → List Int → Int → List Int → Int → Int → Bool → Option (Bool)
 | 0, _, _, _, _, _, _ => none
 | k + 1, x3, x10, x79, x80, x81, x110 => if x110 = true then (some false) else (epicyclelaw11_DftHelps.l0 k x3 x10 x79 x80 (wrap64 (x81 + 1)))
end
noncomputable def epicyclelaw11_DftHelps.f (k : Nat) (a0_0 : Int) (a0_1 : Int) (a0_2 : Int) (l0_3 : List (S134)) (a1 : Int) (a2 : Int) (l3 : List Int) : Option (Bool) := (epicyclelaw11_alive.f k).bind fun t231 => (if t231 = true then (if (l3.length : Int) > 100 then (some true) else ((epicyclelaw11_made.f k a0_0 a0_1 a0_2 l0_3).bind fun bt232 => (if bt232.2.1 = 0 then (if (bt232.1.length : Int) = 0 then ((dft_Check.f bt232.1 a1 a2).bind fun t237 => (if t237 = 2 then ((dft_Good.f k bt232.1 l3).bind fun t238 => (if t238 = true then (some false) else ((dft_Scale.f k bt232.1 l3).bind fun t239 => (some ((t239.length : Int) == (l3.length : Int)))))) else (some false))) else (some false)) else ((dft_Check.f bt232.1 a1 a2).bind fun t242 => ((epicycleref11_Check.f bt232.2.1 a1 a2).bind fun t243 => (if t242 = t243 then ((dft_Good.f k bt232.1 l3).bind fun t244 => ((epicycleref11_Good.f k bt232.2.1 l3).bind fun t245 => (epicyclelaw11_DftHelps.j0 k l3 bt232.1 bt232.2.1 (t244 != t245)))) else (epicyclelaw11_DftHelps.j0 k l3 bt232.1 bt232.2.1 true))))))) else (some false))
set_option maxHeartbeats 8000000 in
set_option maxRecDepth 100000 in
theorem epicyclelaw11_DftHelps.calls (k : Nat) (a0_0 : Int) (a0_1 : Int) (a0_2 : Int) (A0_3 : Option Addr) (c0_3 : Nat) (l0_3 : List (S134)) (a1 : Int) (a2 : Int) (A3 : Option Addr) (c3 : Nat) (l3 : List Int) (w : World) (hr0_3 : Kd.C k134 w A0_3 l0_3.length l0_3) (hc0_3 : l0_3.length ≤ c0_3) (hr3 : Kd.C (Kd.int .u64) w A3 l3.length l3) (hc3 : l3.length ≤ c3) (h : epicyclelaw11_DftHelps.f k a0_0 a0_1 a0_2 l0_3 a1 a2 l3 = some true) :
  Calls Tryz.prog 4 #[.agg #[.int .i64 a0_0, .int .i64 a0_1, .int .u64 a0_2, .slice A0_3 l0_3.length c0_3], .int .i64 a1, .int .i64 a2, .slice A3 l3.length c3] w fun e w' => e = .returned (.bool true) ∧ Below w.heap.size w w' := by
 have hu25 := Tryz.underlying25
 have HR0_3 := Aside0.mk hr0_3
 have HC0_3 := Aside0.mk hc0_3
 clear hr0_3 hc0_3
 have HR3 := Aside0.mk hr3
 have HC3 := Aside0.mk hc3
 clear hr3 hc3
 have HB := Aside0.mk (Below.refl w.heap.size w)
 have H := h; unfold epicyclelaw11_DftHelps.f at H
 clear h
 replace H := Option.bind_eq_some_iff.mp H
 obtain ⟨t231, A50, H⟩ := H
 (try dsimp only at H)
 have A5 := Aside0.mk A50
 clear A50
 by_cases c6 : t231 = true
 ·subst c6
  have H1 := H; rw [if_pos rfl] at H1
  clear H
  have H := H1
  clear H1
  by_cases c7 : (l3.length : Int) > 100
  ·rw [if_pos c7] at H
   have c7b0 := decide_eq_true c7
   have c7b1 : decide (100 < l3.length) = true := decide_eq_true (by omega)
   clear c7
   clear H
   go_enter Tryz.func4, Tryz.ntmps4
   go_wp2_with (first | ((with_reducible refine gate_dst (N := 4) rfl ?_); (try (refine gate_guard (by rfl) ?_; dsimp only)); refine box_event ?hg (N := 4) ?hd (cs := #[.int .i64 a0_0, .int .i64 a0_1, .int .u64 a0_2, .slice A0_3 l0_3.length c0_3]) (t := 25) ?hr ?_; (case hd => rfl); (case hg => rfl); (case hr => first | (go_simp; done) | (go_simp; rfl)); intro gb230 hg w8 hbox hb; have n0_ := Aside0.mk (below_step bel_ hb); have n1_ := Aside0.mk (hbox); have n2_ := Aside0.mk ((by rw [hg]; exact (below_size bel_) : w.heap.size ≤ gb230)); have n3_ := Aside0.mk ((by rw [hg]; exact (below_size bel_) : w.heap.size ≤ gb230)); clear HB; have HB := n0_; have BK230 := n1_; have GW230 := n2_; have GE230 := n3_; clear n0_ n1_ n2_ n3_; clear hb hbox hg) | (go_at_call 16; (with_reducible refine (epicyclelaw11_alive.calls k  true _ A5.out).mono ?_); rintro e w9 ⟨rfl, hb⟩; have n0_ := Aside0.mk (blk_below (g := gb230) (o := .cells #[.int .i64 a0_0, .int .i64 a0_1, .int .u64 a0_2, .slice A0_3 l0_3.length c0_3] 25 (0, 0)) (by (with_reducible repeat (first | refine blk_drewN ?_ _ | refine blk_drew ?_ | refine blk_alloc ?_ _)); exact BK230.out) hb); have n1_ := Aside0.mk (below_step bel_ hb); clear BK230; clear HB; have BK230 := n0_; have HB := n1_; clear n0_ n1_; (try clear hb); (try clear hb2); (try clear hk); (try clear hi)))
   go_ret
   exact ⟨by first | rfl | (simp [errW_none, errW_some] <;> rfl) | (simp [*, errW_none, errW_some] <;> rfl), bel_⟩
  ·rw [if_neg c7] at H
   have c7b0 := decide_eq_false c7
   have c7b1 : decide (100 < l3.length) = false := decide_eq_false (by omega)
   clear c7
   replace H := Option.bind_eq_some_iff.mp H
   obtain ⟨⟨t232, t235, t236⟩, A100, H⟩ := H
   (try dsimp only at H)
   have A10 := Aside0.mk A100
   clear A100
   by_cases c11 : t235 = 0
   ·rw [if_pos c11] at H
    have c11b0 := beq_iff_eq.mpr c11
    have c11b1 := bne_eq_false_iff_eq.mpr c11
    clear c11
    by_cases c12 : (t232.length : Int) = 0
    ·rw [if_pos c12] at H
     have c12b0 := beq_iff_eq.mpr c12
     have c12b1 := bne_eq_false_iff_eq.mpr c12
     have hTl_t232 := Aside0.mk (show t232.length = 0 by omega)
     clear c12
     replace H := Option.bind_eq_some_iff.mp H
     obtain ⟨t237, A130, H⟩ := H
     (try dsimp only at H)
     have A13 := Aside0.mk A130
     clear A130
     by_cases c14 : t237 = 2
     ·rw [if_pos c14] at H
      have c14b0 := beq_iff_eq.mpr c14
      have c14b1 := bne_eq_false_iff_eq.mpr c14
      clear c14
      replace H := Option.bind_eq_some_iff.mp H
      obtain ⟨t238, A150, H⟩ := H
      (try dsimp only at H)
      have A15 := Aside0.mk A150
      clear A150
      by_cases c16 : t238 = true
      ·subst c16
       have H1 := H; rw [if_pos rfl] at H1
       clear H
       have H := H1
       clear H1
       exact absurd H (by simp)
      ·replace c16 := Bool.eq_false_iff.mpr c16
       subst c16
       have H1 := H; rw [if_neg (show ¬ (false = true) by decide)] at H1
       clear H
       have H := H1
       clear H1
       replace H := Option.bind_eq_some_iff.mp H
       obtain ⟨t239, A170, H⟩ := H
       (try dsimp only at H)
       have A17 := Aside0.mk A170
       clear A170
       have hR_ := Option.some.inj H
       go_enter Tryz.func4, Tryz.ntmps4
       go_wp2_with (first | ((with_reducible refine gate_dst (N := 4) rfl ?_); (try (refine gate_guard (by rfl) ?_; dsimp only)); refine box_event ?hg (N := 4) ?hd (cs := #[.int .i64 a0_0, .int .i64 a0_1, .int .u64 a0_2, .slice A0_3 l0_3.length c0_3]) (t := 25) ?hr ?_; (case hd => rfl); (case hg => rfl); (case hr => first | (go_simp; done) | (go_simp; rfl)); intro gb230 hg w18 hbox hb; have n0_ := Aside0.mk (below_step bel_ hb); have n1_ := Aside0.mk (hbox); have n2_ := Aside0.mk ((by rw [hg]; exact (below_size bel_) : w.heap.size ≤ gb230)); have n3_ := Aside0.mk ((by rw [hg]; exact (below_size bel_) : w.heap.size ≤ gb230)); clear HB; have HB := n0_; have BK230 := n1_; have GW230 := n2_; have GE230 := n3_; clear n0_ n1_ n2_ n3_; clear hb hbox hg) | (go_at_call 16; (with_reducible refine (epicyclelaw11_alive.calls k  true _ A5.out).mono ?_); rintro e w19 ⟨rfl, hb⟩; have n0_ := Aside0.mk (blk_below (g := gb230) (o := .cells #[.int .i64 a0_0, .int .i64 a0_1, .int .u64 a0_2, .slice A0_3 l0_3.length c0_3] 25 (0, 0)) (by (with_reducible repeat (first | refine blk_drewN ?_ _ | refine blk_drew ?_ | refine blk_alloc ?_ _)); exact BK230.out) hb); have n1_ := Aside0.mk (below_step bel_ hb); clear BK230; clear HB; have BK230 := n0_; have HB := n1_; clear n0_ n1_; (try clear hb); (try clear hb2); (try clear hk); (try clear hi); have hcz20_0 : w19.cell? ⟨gb230, 0, none⟩ = some (.int .i64 a0_0) := (blk_cell BK230.out 0).trans rfl; have hcz20_1 : w19.cell? ⟨gb230, 1, none⟩ = some (.int .i64 a0_1) := (blk_cell BK230.out 1).trans rfl; have hcz20_2 : w19.cell? ⟨gb230, 2, none⟩ = some (.int .u64 a0_2) := (blk_cell BK230.out 2).trans rfl; have hcz20_3 : w19.cell? ⟨gb230, 3, none⟩ = some (.slice A0_3 l0_3.length c0_3) := (blk_cell BK230.out 3).trans rfl; have hfz20_0 := blk_frozen BK230.out 0; have hfz20_1 := blk_frozen BK230.out 1; have hfz20_2 := blk_frozen BK230.out 2; have hfz20_3 := blk_frozen BK230.out 3) | (go_at_call 17; (with_reducible refine (epicyclelaw11_made.calls k a0_0 a0_1 a0_2 _ _ l0_3 t232 t235 t236 _ ?side1 ?side2 A10.out).mono ?_); (case side1 => repeat (first | exact (Kd.C_below HR0_3.out HB.out) | (with_reducible refine Kd.C_alloc ?_ _) | (with_reducible refine Kd.C_drewN ?_ _) | (with_reducible refine Kd.C_drew ?_))); (case side2 => exact HC0_3.out); rintro e w21 ⟨v233, rfl, ho0, hb⟩; have n0_ := Aside0.mk (Kd.R_lower ho0 (below_size bel_)); have n1_ := Aside0.mk (blk_below (g := gb230) (o := .cells #[.int .i64 a0_0, .int .i64 a0_1, .int .u64 a0_2, .slice A0_3 l0_3.length c0_3] 25 (0, 0)) (by (with_reducible repeat (first | refine blk_drewN ?_ _ | refine blk_drew ?_ | refine blk_alloc ?_ _)); exact BK230.out) hb); have n2_ := Aside0.mk (below_step bel_ hb); clear BK230; clear HB; have HO234 := n0_; have BK230 := n1_; have HB := n2_; clear n0_ n1_ n2_; (try clear hb); (try clear hb2); (try clear hk); (try clear hi); (try clear ho0); have hT_HO234 := pf_none_own HO234.out hTl_t232.out; obtain ⟨Ao22, co22, eo22⟩ := Kd.R_slice HO234.out; subst eo22) | (go_at_call 23; (try rw [← hT_HO234]); (with_reducible refine (dft_Check.calls _ _ t232 a1 a2 t237 _ ?side1 ?side2 A13.out).mono ?_); (case side1 => repeat (first | exact (Kd.R_reads' HO234.out).2.2 | (with_reducible refine Kd.C_alloc ?_ _) | (with_reducible refine Kd.C_drewN ?_ _) | (with_reducible refine Kd.C_drew ?_))); (case side2 => exact (Kd.R_reads' HO234.out).2.1); rintro e w' ⟨rfl, ⟨nd, rfl⟩⟩; (try first | exact ⟨rfl, _, World.drewN_drewN _ _ _⟩ | exact ⟨rfl, _, Eq.trans (World.drewN_drewN _ _ _) (congrArg (World.drewN _) (Nat.add_assoc _ _ _))⟩)) | (go_at_call 24; (try rw [← hT_HO234]); (with_reducible refine (dft_Good.calls k _ _ t232 _ _ l3 false _ ?side1 ?side2 ?side3 ?side4 A15.out).mono ?_); (case side1 => repeat (first | exact (Kd.R_reads' HO234.out).2.2 | (with_reducible refine Kd.C_alloc ?_ _) | (with_reducible refine Kd.C_drewN ?_ _) | (with_reducible refine Kd.C_drew ?_))); (case side2 => exact (Kd.R_reads' HO234.out).2.1); (case side3 => repeat (first | exact (Kd.C_below HR3.out bel_) | (with_reducible refine Kd.C_alloc ?_ _) | (with_reducible refine Kd.C_drewN ?_ _) | (with_reducible refine Kd.C_drew ?_))); (case side4 => exact HC3.out); rintro e w' ⟨rfl, ⟨nd, rfl⟩⟩; (try first | exact ⟨rfl, _, World.drewN_drewN _ _ _⟩ | exact ⟨rfl, _, Eq.trans (World.drewN_drewN _ _ _) (congrArg (World.drewN _) (Nat.add_assoc _ _ _))⟩)) | (go_at_call 25; (try rw [← hT_HO234]); (with_reducible refine (dft_Scale.calls k _ _ t232 _ _ l3 t239 _ ?side1 ?side2 ?side3 ?side4 A17.out).mono ?_); (case side1 => repeat (first | exact (Kd.R_reads' HO234.out).2.2 | (with_reducible refine Kd.C_alloc ?_ _) | (with_reducible refine Kd.C_drewN ?_ _) | (with_reducible refine Kd.C_drew ?_))); (case side2 => exact (Kd.R_reads' HO234.out).2.1); (case side3 => repeat (first | exact (Kd.C_below HR3.out bel_) | (with_reducible refine Kd.C_alloc ?_ _) | (with_reducible refine Kd.C_drewN ?_ _) | (with_reducible refine Kd.C_drew ?_))); (case side4 => exact HC3.out); rintro e w23 ⟨v240, rfl, ho0, hb⟩; have n0_ := Aside0.mk (Kd.R_below (by (with_reducible repeat (first | apply Kd.R_alloc | apply Kd.R_drewN | apply Kd.R_drew)); exact HO234.out) hb); have n1_ := Aside0.mk (Kd.R_lower ho0 (below_size bel_)); have n2_ := Aside0.mk (blk_below (g := gb230) (o := .cells #[.int .i64 a0_0, .int .i64 a0_1, .int .u64 a0_2, .slice A0_3 l0_3.length c0_3] 25 (0, 0)) (by (with_reducible repeat (first | refine blk_drewN ?_ _ | refine blk_drew ?_ | refine blk_alloc ?_ _)); exact BK230.out) hb); have n3_ := Aside0.mk (below_step bel_ hb); clear HO234; clear BK230; clear HB; have HO234 := n0_; have HO241 := n1_; have BK230 := n2_; have HB := n3_; clear n0_ n1_ n2_ n3_; (try clear hb); (try clear hb2); (try clear hk); (try clear hi); (try clear ho0); have hT_HO234 := pf_none_own HO234.out hTl_t232.out; obtain ⟨Ao24, co24, eo24⟩ := Kd.R_slice HO241.out; subst eo24))
       go_ret
       exact ⟨by first | rfl | (simp [errW_none, errW_some] <;> rfl) | (simp [*, errW_none, errW_some] <;> rfl), bel_⟩
     ·rw [if_neg c14] at H
      have c14b0 := beq_eq_false_iff_ne.mpr c14
      have c14b1 := bne_iff_ne.mpr c14
      exact absurd H (by simp)
    ·rw [if_neg c12] at H
     have c12b0 := beq_eq_false_iff_ne.mpr c12
     have c12b1 := bne_iff_ne.mpr c12
     have c12b2 : ¬ (t232 = []) := fun h_ => c12 (by rw [h_]; rfl)
     have hTl_t232 := Aside0.mk (show ¬ (t232.length = 0) by omega)
     exact absurd H (by simp)
   ·rw [if_neg c11] at H
    have c11b0 := beq_eq_false_iff_ne.mpr c11
    have c11b1 := bne_iff_ne.mpr c11
    have HC25 := Aside0.mk H
    clear H
    go_enter Tryz.func4, Tryz.ntmps4
    go_upto_region 8 with (first | ((with_reducible refine gate_dst (N := 4) rfl ?_); (try (refine gate_guard (by rfl) ?_; dsimp only)); refine box_event ?hg (N := 4) ?hd (cs := #[.int .i64 a0_0, .int .i64 a0_1, .int .u64 a0_2, .slice A0_3 l0_3.length c0_3]) (t := 25) ?hr ?_; (case hd => rfl); (case hg => rfl); (case hr => first | (go_simp; done) | (go_simp; rfl)); intro gb230 hg w26 hbox hb; have n0_ := Aside0.mk (below_step bel_ hb); have n1_ := Aside0.mk (hbox); have n2_ := Aside0.mk ((by rw [hg]; exact (below_size bel_) : w.heap.size ≤ gb230)); have n3_ := Aside0.mk ((by rw [hg]; exact (below_size bel_) : w.heap.size ≤ gb230)); clear HB; have HB := n0_; have BK230 := n1_; have GW230 := n2_; have GE230 := n3_; clear n0_ n1_ n2_ n3_; clear hb hbox hg) | (go_at_call 16; (with_reducible refine (epicyclelaw11_alive.calls k  true _ A5.out).mono ?_); rintro e w27 ⟨rfl, hb⟩; have n0_ := Aside0.mk (blk_below (g := gb230) (o := .cells #[.int .i64 a0_0, .int .i64 a0_1, .int .u64 a0_2, .slice A0_3 l0_3.length c0_3] 25 (0, 0)) (by (with_reducible repeat (first | refine blk_drewN ?_ _ | refine blk_drew ?_ | refine blk_alloc ?_ _)); exact BK230.out) hb); have n1_ := Aside0.mk (below_step bel_ hb); clear BK230; clear HB; have BK230 := n0_; have HB := n1_; clear n0_ n1_; (try clear hb); (try clear hb2); (try clear hk); (try clear hi); have hcz28_0 : w27.cell? ⟨gb230, 0, none⟩ = some (.int .i64 a0_0) := (blk_cell BK230.out 0).trans rfl; have hcz28_1 : w27.cell? ⟨gb230, 1, none⟩ = some (.int .i64 a0_1) := (blk_cell BK230.out 1).trans rfl; have hcz28_2 : w27.cell? ⟨gb230, 2, none⟩ = some (.int .u64 a0_2) := (blk_cell BK230.out 2).trans rfl; have hcz28_3 : w27.cell? ⟨gb230, 3, none⟩ = some (.slice A0_3 l0_3.length c0_3) := (blk_cell BK230.out 3).trans rfl; have hfz28_0 := blk_frozen BK230.out 0; have hfz28_1 := blk_frozen BK230.out 1; have hfz28_2 := blk_frozen BK230.out 2; have hfz28_3 := blk_frozen BK230.out 3) | (go_at_call 17; (with_reducible refine (epicyclelaw11_made.calls k a0_0 a0_1 a0_2 _ _ l0_3 t232 t235 t236 _ ?side1 ?side2 A10.out).mono ?_); (case side1 => repeat (first | exact (Kd.C_below HR0_3.out HB.out) | (with_reducible refine Kd.C_alloc ?_ _) | (with_reducible refine Kd.C_drewN ?_ _) | (with_reducible refine Kd.C_drew ?_))); (case side2 => exact HC0_3.out); rintro e w29 ⟨v233, rfl, ho0, hb⟩; have n0_ := Aside0.mk (Kd.R_lower ho0 (below_size bel_)); have n1_ := Aside0.mk (blk_below (g := gb230) (o := .cells #[.int .i64 a0_0, .int .i64 a0_1, .int .u64 a0_2, .slice A0_3 l0_3.length c0_3] 25 (0, 0)) (by (with_reducible repeat (first | refine blk_drewN ?_ _ | refine blk_drew ?_ | refine blk_alloc ?_ _)); exact BK230.out) hb); have n2_ := Aside0.mk (below_step bel_ hb); clear BK230; clear HB; have HO234 := n0_; have BK230 := n1_; have HB := n2_; clear n0_ n1_ n2_; (try clear hb); (try clear hb2); (try clear hk); (try clear hi); (try clear ho0)))
    (try simp only [Act.put, List.setIfInBounds_toArray, List.set_cons_zero, List.set_cons_succ])
    go_cut [70] (fun v70 wc => ∃ (kq : Nat) (x70_24 : Bool), v70 = .bool x70_24 ∧ Aside0 (epicyclelaw11_DftHelps.j0 kq l3 t232 t235 x70_24 = some true) ∧ Aside0 (kq ≤ k) ∧ Aside0 (Kd.R kFld 97 wc w.heap.size (fun _ => True) v233 t232) ∧ Aside0 (wc.heap[gb230]? = some (.cells #[.int .i64 a0_0, .int .i64 a0_1, .int .u64 a0_2, (.slice A0_3 l0_3.length c0_3)] 25 (0, 0))) ∧ Aside0 (Below w.heap.size w wc))
    case first =>
     have H := HC25.out
     clear HC25
     replace H := Option.bind_eq_some_iff.mp H
     obtain ⟨t242, A300, H⟩ := H
     (try dsimp only at H)
     have A30 := Aside0.mk A300
     clear A300
     replace H := Option.bind_eq_some_iff.mp H
     obtain ⟨t243, A310, H⟩ := H
     (try dsimp only at H)
     have A31 := Aside0.mk A310
     clear A310
     by_cases c32 : t242 = t243
     ·rw [if_pos c32] at H
      have c32b0 := beq_iff_eq.mpr c32
      have c32b1 := bne_eq_false_iff_eq.mpr c32
      clear c32
      (first | rw [c32b0] | (simp only [i64_w, i32_w]; rw [c32b0]) | skip)
      replace H := Option.bind_eq_some_iff.mp H
      obtain ⟨t244, A330, H⟩ := H
      (try dsimp only at H)
      have A33 := Aside0.mk A330
      clear A330
      replace H := Option.bind_eq_some_iff.mp H
      obtain ⟨t245, A340, H⟩ := H
      (try dsimp only at H)
      have A34 := Aside0.mk A340
      clear A340
      have H' := Aside0.mk H
      clear H
      obtain ⟨Ao35, co35, eo35⟩ := Kd.R_slice HO234.out
      subst eo35
      go_wp2_with (first | (go_at_call 23; (try rw [← hT_HO234]); (with_reducible refine (dft_Check.calls _ _ t232 a1 a2 t242 _ ?side1 ?side2 A30.out).mono ?_); (case side1 => repeat (first | exact (Kd.R_reads' HO234.out).2.2 | (with_reducible refine Kd.C_alloc ?_ _) | (with_reducible refine Kd.C_drewN ?_ _) | (with_reducible refine Kd.C_drew ?_))); (case side2 => exact (Kd.R_reads' HO234.out).2.1); rintro e w' ⟨rfl, ⟨nd, rfl⟩⟩; (try first | exact ⟨rfl, _, World.drewN_drewN _ _ _⟩ | exact ⟨rfl, _, Eq.trans (World.drewN_drewN _ _ _) (congrArg (World.drewN _) (Nat.add_assoc _ _ _))⟩)) | (go_at_call 20; (with_reducible refine (epicycleref11_Check.calls t235 a1 a2 t243 _ A31.out).mono ?_); rintro e w' ⟨rfl, ⟨nd, rfl⟩⟩; (try first | exact ⟨rfl, _, World.drewN_drewN _ _ _⟩ | exact ⟨rfl, _, Eq.trans (World.drewN_drewN _ _ _) (congrArg (World.drewN _) (Nat.add_assoc _ _ _))⟩)) | (go_at_call 24; (try rw [← hT_HO234]); (with_reducible refine (dft_Good.calls k _ _ t232 _ _ l3 t244 _ ?side1 ?side2 ?side3 ?side4 A33.out).mono ?_); (case side1 => repeat (first | exact (Kd.R_reads' HO234.out).2.2 | (with_reducible refine Kd.C_alloc ?_ _) | (with_reducible refine Kd.C_drewN ?_ _) | (with_reducible refine Kd.C_drew ?_))); (case side2 => exact (Kd.R_reads' HO234.out).2.1); (case side3 => repeat (first | exact (Kd.C_below HR3.out bel_) | (with_reducible refine Kd.C_alloc ?_ _) | (with_reducible refine Kd.C_drewN ?_ _) | (with_reducible refine Kd.C_drew ?_))); (case side4 => exact HC3.out); rintro e w' ⟨rfl, ⟨nd, rfl⟩⟩; (try first | exact ⟨rfl, _, World.drewN_drewN _ _ _⟩ | exact ⟨rfl, _, Eq.trans (World.drewN_drewN _ _ _) (congrArg (World.drewN _) (Nat.add_assoc _ _ _))⟩)) | (go_at_call 21; (with_reducible refine (epicycleref11_Good.calls k t235 _ _ l3 t245 _ ?side1 ?side2 A34.out).mono ?_); (case side1 => repeat (first | exact (Kd.C_below HR3.out bel_) | (with_reducible refine Kd.C_alloc ?_ _) | (with_reducible refine Kd.C_drewN ?_ _) | (with_reducible refine Kd.C_drew ?_))); (case side2 => exact HC3.out); rintro e w' ⟨rfl, ⟨nd, rfl⟩⟩; (try first | exact ⟨rfl, _, World.drewN_drewN _ _ _⟩ | exact ⟨rfl, _, Eq.trans (World.drewN_drewN _ _ _) (congrArg (World.drewN _) (Nat.add_assoc _ _ _))⟩)))
      go_meet
      case rel => exact ⟨_, ((t244 != t245)), (by first | rfl | (simp; done) | (simp [*]; done)), H', ⟨by first | omega | exact Nat.le_refl _⟩, ⟨by (with_reducible repeat (first | apply Kd.R_alloc | apply Kd.R_drewN | apply Kd.R_drew)); exact HO234.out⟩, ⟨by (with_reducible repeat (first | refine blk_drewN ?_ _ | refine blk_drew ?_ | refine blk_alloc ?_ _)); exact BK230.out⟩, ⟨bel_⟩⟩
     ·rw [if_neg c32] at H
      have c32b0 := beq_eq_false_iff_ne.mpr c32
      have c32b1 := bne_iff_ne.mpr c32
      (first | rw [c32b0] | (simp only [i64_w, i32_w]; rw [c32b0]) | skip)
      have H' := Aside0.mk H
      clear H
      obtain ⟨Ao36, co36, eo36⟩ := Kd.R_slice HO234.out
      subst eo36
      go_wp2_with (first | (go_at_call 23; (try rw [← hT_HO234]); (with_reducible refine (dft_Check.calls _ _ t232 a1 a2 t242 _ ?side1 ?side2 A30.out).mono ?_); (case side1 => repeat (first | exact (Kd.R_reads' HO234.out).2.2 | (with_reducible refine Kd.C_alloc ?_ _) | (with_reducible refine Kd.C_drewN ?_ _) | (with_reducible refine Kd.C_drew ?_))); (case side2 => exact (Kd.R_reads' HO234.out).2.1); rintro e w' ⟨rfl, ⟨nd, rfl⟩⟩; (try first | exact ⟨rfl, _, World.drewN_drewN _ _ _⟩ | exact ⟨rfl, _, Eq.trans (World.drewN_drewN _ _ _) (congrArg (World.drewN _) (Nat.add_assoc _ _ _))⟩)) | (go_at_call 20; (with_reducible refine (epicycleref11_Check.calls t235 a1 a2 t243 _ A31.out).mono ?_); rintro e w' ⟨rfl, ⟨nd, rfl⟩⟩; (try first | exact ⟨rfl, _, World.drewN_drewN _ _ _⟩ | exact ⟨rfl, _, Eq.trans (World.drewN_drewN _ _ _) (congrArg (World.drewN _) (Nat.add_assoc _ _ _))⟩)))
      go_meet
      case rel => exact ⟨_, (true), (by first | rfl | (simp; done) | (simp [*]; done)), H', ⟨by first | omega | exact Nat.le_refl _⟩, ⟨by (with_reducible repeat (first | apply Kd.R_alloc | apply Kd.R_drewN | apply Kd.R_drew)); exact HO234.out⟩, ⟨by (with_reducible repeat (first | refine blk_drewN ?_ _ | refine blk_drew ?_ | refine blk_alloc ?_ _)); exact BK230.out⟩, ⟨bel_⟩⟩
    case rest =>
     clear HC25
     try clear c1
     try clear p2
     try clear c3
     try clear c4
     try clear c6
     try clear c7
     try clear c7b0
     try clear c7b1
     try clear c11
     try clear c11b0
     try clear c11b1
     try clear c12
     try clear c12b0
     try clear c12b1
     try clear c12b2
     try clear c14
     try clear c14b0
     try clear c14b1
     try clear c16
     try clear c32
     try clear c32b0
     try clear c32b1
     try clear hcz20_0
     try clear hcz20_1
     try clear hcz20_2
     try clear hcz20_3
     try clear hcz28_0
     try clear hcz28_1
     try clear hcz28_2
     try clear hcz28_3
     try clear hfz20_0
     try clear hfz20_1
     try clear hfz20_2
     try clear hfz20_3
     try clear hfz28_0
     try clear hfz28_1
     try clear hfz28_2
     try clear hfz28_3
     obtain ⟨kq, x70_24, rfl, HA, HJ24, HO_9, BK230, HB⟩ := hcut
     cases kq with
     | zero => exact absurd HA.out (by simp [epicyclelaw11_DftHelps.j0])
     | succ kj24 =>
      have H := HA.out
      clear HA
      simp only [epicyclelaw11_DftHelps.j0] at H
      by_cases c37 : x70_24 = true
      ·subst c37
       have H1 := H; rw [if_pos rfl] at H1
       clear H
       have H := H1
       clear H1
       exact absurd H (by simp)
      ·replace c37 := Bool.eq_false_iff.mpr c37
       subst c37
       have H1 := H; rw [if_neg (show ¬ (false = true) by decide)] at H1
       clear H
       have H := H1
       clear H1
       replace H := Option.bind_eq_some_iff.mp H
       obtain ⟨t246, A380, H⟩ := H
       (try dsimp only at H)
       have A38 := Aside0.mk A380
       clear A380
       by_cases c39 : (t246.length : Int) = (l3.length : Int)
       ·rw [if_pos c39] at H
        have c39b0 := beq_iff_eq.mpr c39
        have c39b1 := bne_eq_false_iff_eq.mpr c39
        have c39b2 : (t246.length == l3.length) = true := by first | simpa using c39 | (simp at c39 ⊢; omega)
        clear c39
        have H' := Aside0.mk H
        clear H
        obtain ⟨Ao40, co40, eo40⟩ := Kd.R_slice HO_9.out
        subst eo40
        go_wp2_with (first | (go_at_call 25; (try rw [← hT_HO_9]); (with_reducible refine (dft_Scale.calls kj24 _ _ t232 _ _ l3 t246 _ ?side1 ?side2 ?side3 ?side4 A38.out).mono ?_); (case side1 => repeat (first | exact (Kd.R_reads' HO_9.out).2.2 | (with_reducible refine Kd.C_alloc ?_ _) | (with_reducible refine Kd.C_drewN ?_ _) | (with_reducible refine Kd.C_drew ?_))); (case side2 => exact (Kd.R_reads' HO_9.out).2.1); (case side3 => repeat (first | exact (Kd.C_below HR3.out HB.out) | (with_reducible refine Kd.C_alloc ?_ _) | (with_reducible refine Kd.C_drewN ?_ _) | (with_reducible refine Kd.C_drew ?_))); (case side4 => exact HC3.out); rintro e w41 ⟨v247, rfl, ho0, hb⟩; have n0_ := Aside0.mk (Kd.R_below (by (with_reducible repeat (first | apply Kd.R_alloc | apply Kd.R_drewN | apply Kd.R_drew)); exact HO_9.out) hb); have n1_ := Aside0.mk (Kd.R_lower ho0 (below_size bel_)); have n2_ := Aside0.mk (blk_below (g := gb230) (o := .cells #[.int .i64 a0_0, .int .i64 a0_1, .int .u64 a0_2, .slice A0_3 l0_3.length c0_3] 25 (0, 0)) (by (with_reducible repeat (first | refine blk_drewN ?_ _ | refine blk_drew ?_ | refine blk_alloc ?_ _)); exact BK230.out) hb); have n3_ := Aside0.mk (below_step bel_ hb); clear HO_9; clear BK230; clear HB; have HO_9 := n0_; have HO248 := n1_; have BK230 := n2_; have HB := n3_; clear n0_ n1_ n2_ n3_; (try clear hb); (try clear hb2); (try clear hk); (try clear hi); (try clear ho0); obtain ⟨Ao42, co42, eo42⟩ := Kd.R_slice HO248.out; subst eo42))
        go_loopg [81] kj24 (fun kq v81 w' => ∃ (x81_2 : Int), v81 = .int .i64 x81_2 ∧ Aside0 (epicyclelaw11_DftHelps.l0 kq l3 t235 t246 (t246.length : Int) x81_2 = some true) ∧ Aside0 (kq ≤ kj24) ∧ Aside0 (Kd.R (Kd.int .u64) 22 w' w.heap.size (fun _ => True) (.slice Ao42 t246.length co42) t246) ∧ Aside0 (w'.heap[gb230]? = some (.cells #[.int .i64 a0_0, .int .i64 a0_1, .int .u64 a0_2, (.slice A0_3 l0_3.length c0_3)] 25 (0, 0))) ∧ Aside0 (Below w.heap.size w w'))
        case atStart => exact ⟨(0), (by first | rfl | (simp; done) | (simp [*]; done)), H', ⟨Nat.le_refl _⟩, ⟨by (with_reducible repeat (first | apply Kd.R_alloc | apply Kd.R_drewN | apply Kd.R_drew)); exact HO248.out⟩, ⟨by (with_reducible repeat (first | refine blk_drewN ?_ _ | refine blk_drew ?_ | refine blk_alloc ?_ _)); exact BK230.out⟩, ⟨bel_⟩⟩
        case round =>
         clear H'
         try clear c1
         try clear p2
         try clear c3
         try clear c4
         try clear c6
         try clear c7
         try clear c7b0
         try clear c7b1
         try clear c11
         try clear c11b0
         try clear c11b1
         try clear c12
         try clear c12b0
         try clear c12b1
         try clear c12b2
         try clear c14
         try clear c14b0
         try clear c14b1
         try clear c16
         try clear c32
         try clear c32b0
         try clear c32b1
         try clear c37
         try clear c39
         try clear c39b0
         try clear c39b1
         try clear c39b2
         try clear hcz20_0
         try clear hcz20_1
         try clear hcz20_2
         try clear hcz20_3
         try clear hcz28_0
         try clear hcz28_1
         try clear hcz28_2
         try clear hcz28_3
         try clear hfz20_0
         try clear hfz20_1
         try clear hfz20_2
         try clear hfz20_3
         try clear hfz28_0
         try clear hfz28_1
         try clear hfz28_2
         try clear hfz28_3
         try clear p2
         obtain ⟨x81_2, rfl, HA, HK2, HO_79, BK230, HB⟩ := hrel
         cases gk with
         | zero => exact absurd HA.out (by simp [epicyclelaw11_DftHelps.l0])
         | succ k2 =>
          have H := HA.out
          clear HA
          simp only [epicyclelaw11_DftHelps.l0] at H
          by_cases c43 : x81_2 < (t246.length : Int)
          ·rw [if_pos c43] at H
           have c43b0 := decide_eq_true c43
           clear c43
           by_cases c44 : 0 ≤ x81_2
           ·rw [if_pos c44] at H
            have c44b0 := decide_eq_true c44
            clear c44
            by_cases c45 : x81_2 < (t246.length : Int)
            ·rw [if_pos c45] at H
             have c45b0 := decide_eq_true c45
             clear c45
             by_cases c46 : t235 = 0
             ·rw [if_pos c46] at H
              exact absurd H (by simp)
             ·rw [if_neg c46] at H
              have c46b0 := beq_eq_false_iff_ne.mpr c46
              have c46b1 := bne_iff_ne.mpr c46
              by_cases c47 : (Int.tmod (IntKind.u64.wrap ((l3.length : Int))) t235) = 0
              ·rw [if_pos c47] at H
               have c47b0 := beq_iff_eq.mpr c47
               have c47b1 := bne_eq_false_iff_eq.mpr c47
               clear c47
               by_cases c48 : (rd t246 x81_2) = 0
               ·rw [if_pos c48] at H
                have c48b0 := beq_iff_eq.mpr c48
                have c48b1 := bne_eq_false_iff_eq.mpr c48
                clear c48
                have H' := Aside0.mk H
                clear H
                have p249 : 0 ≤ (x81_2 : Int) := of_decide_eq_true (by assumption)
                have q249 : x81_2 < (t246.length : Int) := of_decide_eq_true (by assumption)
                obtain ⟨ad249, e249, hx249_0⟩ := Kd.at_int (Kd.R_reads' HO_79.out).2.2 x81_2 p249 q249
                cases e249
                replace p249 := eq_true p249
                replace q249 := eq_true q249
                go_wp2
                go_roundg k2
                case measure => have := HJ24.out; have := HK2.out; omega
                case rel => exact ⟨(wrap64 (x81_2 + 1)), (by first | rfl | (simp; done) | (simp [*]; done)), H', ⟨by have := HJ24.out; have := HK2.out; omega⟩, ⟨by (with_reducible repeat (first | apply Kd.R_alloc | apply Kd.R_drewN | apply Kd.R_drew)); exact HO_79.out⟩, ⟨by (with_reducible repeat (first | refine blk_drewN ?_ _ | refine blk_drew ?_ | refine blk_alloc ?_ _)); exact BK230.out⟩, ⟨bel_⟩⟩
               ·rw [if_neg c48] at H
                have c48b0 := beq_eq_false_iff_ne.mpr c48
                have c48b1 := bne_iff_ne.mpr c48
                exact absurd H (by simp)
              ·rw [if_neg c47] at H
               have c47b0 := beq_eq_false_iff_ne.mpr c47
               have c47b1 := bne_iff_ne.mpr c47
               have HC49 := Aside0.mk H
               clear H
               have p249 : 0 ≤ (x81_2 : Int) := of_decide_eq_true (by assumption)
               have q249 : x81_2 < (t246.length : Int) := of_decide_eq_true (by assumption)
               obtain ⟨ad249, e249, hx249_0⟩ := Kd.at_int (Kd.R_reads' HO_79.out).2.2 x81_2 p249 q249
               cases e249
               replace p249 := eq_true p249
               replace q249 := eq_true q249
               go_upto_region 20 with (fail)
               go_cut [110] (fun v110 wc => ∃ (kq : Nat) (x110_48 : Bool), v110 = .bool x110_48 ∧ Aside0 (epicyclelaw11_DftHelps.j2 kq l3 t235 t246 (t246.length : Int) x81_2 x110_48 = some true) ∧ Aside0 (kq ≤ k2) ∧ Aside0 (Kd.R (Kd.int .u64) 22 wc w.heap.size (fun _ => True) (.slice (some ad249) t246.length co42) t246) ∧ Aside0 (wc.heap[gb230]? = some (.cells #[.int .i64 a0_0, .int .i64 a0_1, .int .u64 a0_2, (.slice A0_3 l0_3.length c0_3)] 25 (0, 0))) ∧ Aside0 (Below w.heap.size w wc))
               case first =>
                have H := HC49.out
                clear HC49
                replace H := Option.bind_eq_some_iff.mp H
                obtain ⟨t250, A500, H⟩ := H
                (try dsimp only at H)
                have A50 := Aside0.mk A500
                clear A500
                by_cases c51 : x81_2 < (l3.length : Int)
                ·rw [if_pos c51] at H
                 have c51b0 := decide_eq_true c51
                 clear c51
                 (first | rw [c51b0] | (simp only [i64_w, i32_w]; rw [c51b0]) | skip)
                 by_cases c52 : t250 = (Int.tmod (rd l3 x81_2) t235)
                 ·rw [if_pos c52] at H
                  have c52b0 := beq_iff_eq.mpr c52
                  have c52b1 := bne_eq_false_iff_eq.mpr c52
                  clear c52
                  have H' := Aside0.mk H
                  clear H
                  go_wp2_with (first | (go_at_call 26; (with_reducible refine (epicycleref02_Mul.calls k2 (rd t246 x81_2) (IntKind.u64.wrap ((l3.length : Int))) t235 t250 _ A50.out).mono ?_); rintro e w' ⟨rfl, ⟨nd, rfl⟩⟩; (try first | exact ⟨rfl, _, World.drewN_drewN _ _ _⟩ | exact ⟨rfl, _, Eq.trans (World.drewN_drewN _ _ _) (congrArg (World.drewN _) (Nat.add_assoc _ _ _))⟩); have p251 : 0 ≤ (x81_2 : Int) := of_decide_eq_true (by assumption); have q251 : x81_2 < (l3.length : Int) := of_decide_eq_true (by assumption); obtain ⟨ad251, e251, hx251_0⟩ := Kd.at_int HR3.out x81_2 p251 q251; cases e251; replace hx251_0 := (HB.out.cell (World.block_lt_of_cell? w _ hx251_0)).trans hx251_0; replace p251 := eq_true p251; replace q251 := eq_true q251))
                  repeat (go_quiet (first | (go_at_call 26; (with_reducible refine (epicycleref02_Mul.calls k2 (rd t246 x81_2) (IntKind.u64.wrap ((l3.length : Int))) t235 t250 _ A50.out).mono ?_); rintro e w' ⟨rfl, ⟨nd, rfl⟩⟩; (try first | exact ⟨rfl, _, World.drewN_drewN _ _ _⟩ | exact ⟨rfl, _, Eq.trans (World.drewN_drewN _ _ _) (congrArg (World.drewN _) (Nat.add_assoc _ _ _))⟩); have p251 : 0 ≤ (x81_2 : Int) := of_decide_eq_true (by assumption); have q251 : x81_2 < (l3.length : Int) := of_decide_eq_true (by assumption); obtain ⟨ad251, e251, hx251_0⟩ := Kd.at_int HR3.out x81_2 p251 q251; cases e251; replace hx251_0 := (HB.out.cell (World.block_lt_of_cell? w _ hx251_0)).trans hx251_0; replace p251 := eq_true p251; replace q251 := eq_true q251)); try go_wp2_with (first | (go_at_call 26; (with_reducible refine (epicycleref02_Mul.calls k2 (rd t246 x81_2) (IntKind.u64.wrap ((l3.length : Int))) t235 t250 _ A50.out).mono ?_); rintro e w' ⟨rfl, ⟨nd, rfl⟩⟩; (try first | exact ⟨rfl, _, World.drewN_drewN _ _ _⟩ | exact ⟨rfl, _, Eq.trans (World.drewN_drewN _ _ _) (congrArg (World.drewN _) (Nat.add_assoc _ _ _))⟩); have p251 : 0 ≤ (x81_2 : Int) := of_decide_eq_true (by assumption); have q251 : x81_2 < (l3.length : Int) := of_decide_eq_true (by assumption); obtain ⟨ad251, e251, hx251_0⟩ := Kd.at_int HR3.out x81_2 p251 q251; cases e251; replace hx251_0 := (HB.out.cell (World.block_lt_of_cell? w _ hx251_0)).trans hx251_0; replace p251 := eq_true p251; replace q251 := eq_true q251)))
                  go_meet
                  case rel => exact ⟨_, (decide ((rd t246 x81_2) ≥ t235)), (by first | rfl | (simp; done) | (simp [*]; done)), H', ⟨by have := HJ24.out; have := HK2.out; first | omega | exact Nat.le_refl _⟩, ⟨by (with_reducible repeat (first | apply Kd.R_alloc | apply Kd.R_drewN | apply Kd.R_drew)); exact HO_79.out⟩, ⟨by (with_reducible repeat (first | refine blk_drewN ?_ _ | refine blk_drew ?_ | refine blk_alloc ?_ _)); exact BK230.out⟩, ⟨bel_⟩⟩
                 ·rw [if_neg c52] at H
                  have c52b0 := beq_eq_false_iff_ne.mpr c52
                  have c52b1 := bne_iff_ne.mpr c52
                  have H' := Aside0.mk H
                  clear H
                  go_wp2_with (first | (go_at_call 26; (with_reducible refine (epicycleref02_Mul.calls k2 (rd t246 x81_2) (IntKind.u64.wrap ((l3.length : Int))) t235 t250 _ A50.out).mono ?_); rintro e w' ⟨rfl, ⟨nd, rfl⟩⟩; (try first | exact ⟨rfl, _, World.drewN_drewN _ _ _⟩ | exact ⟨rfl, _, Eq.trans (World.drewN_drewN _ _ _) (congrArg (World.drewN _) (Nat.add_assoc _ _ _))⟩); have p251 : 0 ≤ (x81_2 : Int) := of_decide_eq_true (by assumption); have q251 : x81_2 < (l3.length : Int) := of_decide_eq_true (by assumption); obtain ⟨ad251, e251, hx251_0⟩ := Kd.at_int HR3.out x81_2 p251 q251; cases e251; replace hx251_0 := (HB.out.cell (World.block_lt_of_cell? w _ hx251_0)).trans hx251_0; replace p251 := eq_true p251; replace q251 := eq_true q251))
                  repeat (go_quiet (first | (go_at_call 26; (with_reducible refine (epicycleref02_Mul.calls k2 (rd t246 x81_2) (IntKind.u64.wrap ((l3.length : Int))) t235 t250 _ A50.out).mono ?_); rintro e w' ⟨rfl, ⟨nd, rfl⟩⟩; (try first | exact ⟨rfl, _, World.drewN_drewN _ _ _⟩ | exact ⟨rfl, _, Eq.trans (World.drewN_drewN _ _ _) (congrArg (World.drewN _) (Nat.add_assoc _ _ _))⟩); have p251 : 0 ≤ (x81_2 : Int) := of_decide_eq_true (by assumption); have q251 : x81_2 < (l3.length : Int) := of_decide_eq_true (by assumption); obtain ⟨ad251, e251, hx251_0⟩ := Kd.at_int HR3.out x81_2 p251 q251; cases e251; replace hx251_0 := (HB.out.cell (World.block_lt_of_cell? w _ hx251_0)).trans hx251_0; replace p251 := eq_true p251; replace q251 := eq_true q251)); try go_wp2_with (first | (go_at_call 26; (with_reducible refine (epicycleref02_Mul.calls k2 (rd t246 x81_2) (IntKind.u64.wrap ((l3.length : Int))) t235 t250 _ A50.out).mono ?_); rintro e w' ⟨rfl, ⟨nd, rfl⟩⟩; (try first | exact ⟨rfl, _, World.drewN_drewN _ _ _⟩ | exact ⟨rfl, _, Eq.trans (World.drewN_drewN _ _ _) (congrArg (World.drewN _) (Nat.add_assoc _ _ _))⟩); have p251 : 0 ≤ (x81_2 : Int) := of_decide_eq_true (by assumption); have q251 : x81_2 < (l3.length : Int) := of_decide_eq_true (by assumption); obtain ⟨ad251, e251, hx251_0⟩ := Kd.at_int HR3.out x81_2 p251 q251; cases e251; replace hx251_0 := (HB.out.cell (World.block_lt_of_cell? w _ hx251_0)).trans hx251_0; replace p251 := eq_true p251; replace q251 := eq_true q251)))
                  go_meet
                  case rel => exact ⟨_, (true), (by first | rfl | (simp; done) | (simp [*]; done)), H', ⟨by have := HJ24.out; have := HK2.out; first | omega | exact Nat.le_refl _⟩, ⟨by (with_reducible repeat (first | apply Kd.R_alloc | apply Kd.R_drewN | apply Kd.R_drew)); exact HO_79.out⟩, ⟨by (with_reducible repeat (first | refine blk_drewN ?_ _ | refine blk_drew ?_ | refine blk_alloc ?_ _)); exact BK230.out⟩, ⟨bel_⟩⟩
                ·rw [if_neg c51] at H
                 exact absurd H (by simp)
               case rest =>
                clear HC49
                try clear c1
                try clear p2
                try clear q2
                try clear hx2
                try clear c3
                try clear c4
                try clear c5
                try clear c6
                try clear p6
                try clear c7
                try clear c7b0
                try clear c7b1
                try clear c11
                try clear c11b0
                try clear c11b1
                try clear c12
                try clear c12b0
                try clear c12b1
                try clear c12b2
                try clear c14
                try clear c14b0
                try clear c14b1
                try clear c16
                try clear p24
                try clear q24
                try clear hx24
                try clear p25
                try clear q25
                try clear hx25
                try clear c32
                try clear c32b0
                try clear c32b1
                try clear c37
                try clear c39
                try clear c39b0
                try clear c39b1
                try clear c39b2
                try clear c43
                try clear c43b0
                try clear c44
                try clear c44b0
                try clear c45
                try clear c45b0
                try clear c46
                try clear c46b0
                try clear c46b1
                try clear c47
                try clear c47b0
                try clear c47b1
                try clear c48
                try clear c48b0
                try clear c48b1
                try clear c51
                try clear c51b0
                try clear c52
                try clear c52b0
                try clear c52b1
                try clear hcz20_0
                try clear hcz20_1
                try clear hcz20_2
                try clear hcz20_3
                try clear hcz28_0
                try clear hcz28_1
                try clear hcz28_2
                try clear hcz28_3
                try clear hfz20_0
                try clear hfz20_1
                try clear hfz20_2
                try clear hfz20_3
                try clear hfz28_0
                try clear hfz28_1
                try clear hfz28_2
                try clear hfz28_3
                try clear hx249_0
                try clear hx251_0
                try clear p2
                try clear p249
                try clear p251
                try clear q249
                try clear q251
                obtain ⟨kq, x110_48, rfl, HA, HJ48, HO_79, BK230, HB⟩ := hcut
                cases kq with
                | zero => exact absurd HA.out (by simp [epicyclelaw11_DftHelps.j2])
                | succ kj48 =>
                 have H := HA.out
                 clear HA
                 simp only [epicyclelaw11_DftHelps.j2] at H
                 by_cases c53 : x110_48 = true
                 ·subst c53
                  have H1 := H; rw [if_pos rfl] at H1
                  clear H
                  have H := H1
                  clear H1
                  exact absurd H (by simp)
                 ·replace c53 := Bool.eq_false_iff.mpr c53
                  subst c53
                  have H1 := H; rw [if_neg (show ¬ (false = true) by decide)] at H1
                  clear H
                  have H := H1
                  clear H1
                  have H' := Aside0.mk H
                  clear H
                  go_wp2
                  go_roundg kj48
                  case measure => have := HJ24.out; have := HK2.out; have := HJ48.out; omega
                  case rel => exact ⟨(wrap64 (x81_2 + 1)), (by first | rfl | (simp; done) | (simp [*]; done)), H', ⟨by have := HJ24.out; have := HK2.out; have := HJ48.out; omega⟩, ⟨by (with_reducible repeat (first | apply Kd.R_alloc | apply Kd.R_drewN | apply Kd.R_drew)); exact HO_79.out⟩, ⟨by (with_reducible repeat (first | refine blk_drewN ?_ _ | refine blk_drew ?_ | refine blk_alloc ?_ _)); exact BK230.out⟩, ⟨bel_⟩⟩
            ·rw [if_neg c45] at H
             exact absurd H (by simp)
           ·rw [if_neg c44] at H
            exact absurd H (by simp)
          ·rw [if_neg c43] at H
           have c43b0 := decide_eq_false c43
           clear c43
           clear H
           go_wp2
           go_ret
           exact ⟨by first | rfl | (simp [errW_none, errW_some] <;> rfl) | (simp [*, errW_none, errW_some] <;> rfl), bel_⟩
       ·rw [if_neg c39] at H
        have c39b0 := beq_eq_false_iff_ne.mpr c39
        have c39b1 := bne_iff_ne.mpr c39
        have c39b2 : (t246.length == l3.length) = false := by first | simpa using c39 | (simp at c39 ⊢; omega)
        exact absurd H (by simp)
 ·replace c6 := Bool.eq_false_iff.mpr c6
  subst c6
  have H1 := H; rw [if_neg (show ¬ (false = true) by decide)] at H1
  clear H
  have H := H1
  clear H1
  exact absurd H (by simp)
end Go.Proofs.YtndkmnjbjlfeaaaGreat.XG
end
section
namespace Go.Proofs.YtndkmnjbjlfeaaaGreat.XG
open Go.RowKit Go.Proofs.YtndkmnjbjlfeaaaGreat.Given Go.Proofs.YtndkmnjbjlfeaaaGreat.Row05 Go.Proofs.YtndkmnjbjlfeaaaGreat.XS Go.Proofs.YtndkmnjbjlfeaaaGreat.XT Go.Proofs.YtndkmnjbjlfeaaaGreat.XR Go.Proofs.YtndkmnjbjlfeaaaGreat.F06 Go.Proofs.YtndkmnjbjlfeaaaGreat.XK Go.Proofs.YtndkmnjbjlfeaaaGreat.XW Go.Proofs.YtndkmnjbjlfeaaaGreatW.PrintWords Go.Proofs.YtndkmnjbjlfeaaaGreatW.PrintLast Go.Proofs.YtndkmnjbjlfeaaaGreatW.PrintMore
attribute [local go_sem] max2_int min2_int max_two min_two max_three min_three max_four min_four   -- for this text's walks alone
set_option linter.unusedVariables false
set_option linter.unusedSimpArgs false
end Go.Proofs.YtndkmnjbjlfeaaaGreat.XG
end
section
namespace Go.Proofs.YtndkmnjbjlfeaaaGreat.XG
open Go.RowKit Go.Proofs.YtndkmnjbjlfeaaaGreat.Given Go.Proofs.YtndkmnjbjlfeaaaGreat.Row05 Go.Proofs.YtndkmnjbjlfeaaaGreat.XS Go.Proofs.YtndkmnjbjlfeaaaGreat.XT Go.Proofs.YtndkmnjbjlfeaaaGreat.XR Go.Proofs.YtndkmnjbjlfeaaaGreat.F06 Go.Proofs.YtndkmnjbjlfeaaaGreat.XK Go.Proofs.YtndkmnjbjlfeaaaGreat.XW Go.Proofs.YtndkmnjbjlfeaaaGreatW.PrintWords Go.Proofs.YtndkmnjbjlfeaaaGreatW.PrintLast Go.Proofs.YtndkmnjbjlfeaaaGreatW.PrintMore
attribute [local go_sem] max2_int min2_int max_two min_two max_three min_three max_four min_four   -- for this text's walks alone
set_option linter.unusedVariables false
set_option linter.unusedSimpArgs false
end Go.Proofs.YtndkmnjbjlfeaaaGreat.XG
end
section
namespace Go.Proofs.YtndkmnjbjlfeaaaGreat.XG
open Go.RowKit Go.Proofs.YtndkmnjbjlfeaaaGreat.Given Go.Proofs.YtndkmnjbjlfeaaaGreat.Row05 Go.Proofs.YtndkmnjbjlfeaaaGreat.XS Go.Proofs.YtndkmnjbjlfeaaaGreat.XT Go.Proofs.YtndkmnjbjlfeaaaGreat.XR Go.Proofs.YtndkmnjbjlfeaaaGreat.F06 Go.Proofs.YtndkmnjbjlfeaaaGreat.XK Go.Proofs.YtndkmnjbjlfeaaaGreat.XW Go.Proofs.YtndkmnjbjlfeaaaGreatW.PrintWords Go.Proofs.YtndkmnjbjlfeaaaGreatW.PrintLast Go.Proofs.YtndkmnjbjlfeaaaGreatW.PrintMore
attribute [local go_sem] max2_int min2_int max_two min_two max_three min_three max_four min_four   -- for this text's walks alone
set_option linter.unusedVariables false
set_option linter.unusedSimpArgs false
end Go.Proofs.YtndkmnjbjlfeaaaGreat.XG
end
section
namespace Go.Proofs.YtndkmnjbjlfeaaaGreat.XG
open Go.RowKit Go.Proofs.YtndkmnjbjlfeaaaGreat.Given Go.Proofs.YtndkmnjbjlfeaaaGreat.Row05 Go.Proofs.YtndkmnjbjlfeaaaGreat.XS Go.Proofs.YtndkmnjbjlfeaaaGreat.XT Go.Proofs.YtndkmnjbjlfeaaaGreat.XR Go.Proofs.YtndkmnjbjlfeaaaGreat.F06 Go.Proofs.YtndkmnjbjlfeaaaGreat.XK Go.Proofs.YtndkmnjbjlfeaaaGreat.XW Go.Proofs.YtndkmnjbjlfeaaaGreatW.PrintWords Go.Proofs.YtndkmnjbjlfeaaaGreatW.PrintLast Go.Proofs.YtndkmnjbjlfeaaaGreatW.PrintMore
attribute [local go_sem] max2_int min2_int max_two min_two max_three min_three max_four min_four   -- for this text's walks alone
set_option linter.unusedVariables false
set_option linter.unusedSimpArgs false
end Go.Proofs.YtndkmnjbjlfeaaaGreat.XG
end
section
namespace Go.Proofs.YtndkmnjbjlfeaaaGreat.XG
open Go.RowKit Go.Proofs.YtndkmnjbjlfeaaaGreat.Given Go.Proofs.YtndkmnjbjlfeaaaGreat.Row05 Go.Proofs.YtndkmnjbjlfeaaaGreat.XS Go.Proofs.YtndkmnjbjlfeaaaGreat.XT Go.Proofs.YtndkmnjbjlfeaaaGreat.XR Go.Proofs.YtndkmnjbjlfeaaaGreat.F06 Go.Proofs.YtndkmnjbjlfeaaaGreat.XK Go.Proofs.YtndkmnjbjlfeaaaGreat.XW Go.Proofs.YtndkmnjbjlfeaaaGreatW.PrintWords Go.Proofs.YtndkmnjbjlfeaaaGreatW.PrintLast Go.Proofs.YtndkmnjbjlfeaaaGreatW.PrintMore
attribute [local go_sem] max2_int min2_int max_two min_two max_three min_three max_four min_four   -- for this text's walks alone
set_option linter.unusedVariables false
set_option linter.unusedSimpArgs false
end Go.Proofs.YtndkmnjbjlfeaaaGreat.XG
end
