/- Parts of this claim's texts, packed by wip/tools/prune.py: what the proof does not reach is left out. -/
import Derived.Test.YthnpjjpdlihepaaGreatPE13
section
namespace Go.Proofs.YthnpjjpdlihepaaGreat.XL
open Go.RowKit Go.Proofs.YthnpjjpdlihepaaGreat.Given Go.Proofs.YthnpjjpdlihepaaGreat.Row05 Go.Proofs.YthnpjjpdlihepaaGreat.XS Go.Proofs.YthnpjjpdlihepaaGreat.XT Go.Proofs.YthnpjjpdlihepaaGreat.XR Go.Proofs.YthnpjjpdlihepaaGreat.F06 Go.Proofs.YthnpjjpdlihepaaGreat.XK Go.Proofs.YthnpjjpdlihepaaGreat.XW Go.Proofs.YthnpjjpdlihepaaGreatW.PrintWords Go.Proofs.YthnpjjpdlihepaaGreatW.PrintLast Go.Proofs.YthnpjjpdlihepaaGreatW.PrintMore
attribute [local go_sem] max2_int min2_int max_two min_two max_three min_three max_four min_four   -- for this text's walks alone
set_option linter.unusedVariables false
set_option linter.unusedSimpArgs false
mutual
noncomputable def epicyclelaw10_TwiddleTables.j0 : Nat → Int → Bool → List (Fld) → Int → Int → Int → Int → Bool → Option (Bool)
 | 0, _, _, _, _, _, _, _, _ => none
 | k + 1, x1, x2, x7, x8, x9, x10, x11, x53 => if x53 = true then (some true) else ((epicycleref10_Root.f k x8 x9 x1 x2).bind fun bt157 => ((twiddle_Table.f k x7 x1 x2).bind fun bt159 => ((twiddle_Lifted.f k x7 x1 x2).bind fun bt163 => (if x10 = bt157.1 then (if x11 = bt157.2 then (if x11 = bt159.2 then (epicyclelaw10_TwiddleTables.j1 k x1 x7 x8 x10 bt157.2 bt159.1 bt163.1 (x11 != bt163.2)) else (epicyclelaw10_TwiddleTables.j1 k x1 x7 x8 x10 bt157.2 bt159.1 bt163.1 true)) else (epicyclelaw10_TwiddleTables.j1 k x1 x7 x8 x10 bt157.2 bt159.1 bt163.1 true)) else (epicyclelaw10_TwiddleTables.j1 k x1 x7 x8 x10 bt157.2 bt159.1 bt163.1 true)))))
noncomputable def epicyclelaw10_TwiddleTables.j1 : Nat → Int → List (Fld) → Int → Int → Int → List Int → List Int → Bool → Option (Bool)
 | 0, _, _, _, _, _, _, _, _ => none
 | k + 1, x1, x7, x8, x10, x13, x14, x16, x93 => if x93 = true then (some false) else (if x13 = 0 then ((epicycleref10_Table.f k x8 x10 x1).bind fun t167 => (if (x14.length : Int) = x1 then (epicyclelaw10_TwiddleTables.j2 k x7 x14 x16 t167 ((x16.length : Int) != x1)) else (epicyclelaw10_TwiddleTables.j2 k x7 x14 x16 t167 true))) else (if (x14.length : Int) = 0 then (some ((x16.length : Int) == 0)) else (some false)))
noncomputable def epicyclelaw10_TwiddleTables.j2 : Nat → List (Fld) → List Int → List Int → List Int → Bool → Option (Bool)
 | 0, _, _, _, _, _ => none
 | k + 1, x7, x14, x16, x18, x117 => if x117 = true then (some false) else (epicyclelaw10_TwiddleTables.l0 k x7 x14 x16 x18 (x18.length : Int) 0)
noncomputable def epicyclelaw10_TwiddleTables.l0 : Nat → List (Fld) → List Int → List Int → List Int → Int → Int → Option (Bool)
 | 0, _, _, _, _, _, _ => none
 | k + 1, x7, x14, x16, x118, x119, x120 => if x120 < x119 then (if 0 ≤ x120 then (if x120 < (x118.length : Int) then (if x120 < (x14.length : Int) then (if (rd x14 x120) = (rd x118 x120) then (if x120 < (x16.length : Int) then ((field_Field_Lift.f x7 (rd x118 x120)).bind fun t173 => (epicyclelaw10_TwiddleTables.j4 k x7 x14 x16 x118 x119 x120 ((rd x16 x120) != t173))) else (none)) else (epicyclelaw10_TwiddleTables.j4 k x7 x14 x16 x118 x119 x120 true)) else (none)) else (none)) else (none)) else (some true)
noncomputable def epicyclelaw10_TwiddleTables.j4 : Nat → List (Fld) → List Int → List Int → List Int → Int → Int → Bool → Option (Bool)
 | 0, _, _, _, _, _, _, _ => none
 | k + 1, x7, x14, x16, x118, x119, x120, x140 => if x140 = true then (some false) else (epicyclelaw10_TwiddleTables.l0 k x7 x14 x16 x118 x119 (wrap64 (x120 + 1)))
end
noncomputable def epicyclelaw10_TwiddleTables.f (k : Nat) (a0_0 : Int) (a0_1 : Int) (a0_2 : Int) (l0_3 : List (S71)) (a1 : Int) (a2 : Bool) : Option (Bool) := (epicyclelaw10_alive.f k).bind fun t149 => (if t149 = true then ((epicyclelaw10_made.f k a0_0 a0_1 a0_2 l0_3).bind fun bt150 => ((twiddle_Root.f k bt150.1 a1 a2).bind fun bt155 => (if bt150.2.1 = 0 then (if (bt150.1.length : Int) = 0 then (if bt155.1 = 0 then (some (bt155.2 == 2)) else (some false)) else (some false)) else (if a1 > 300 then (epicyclelaw10_TwiddleTables.j0 k a1 a2 bt150.1 bt150.2.1 bt150.2.2 bt155.1 bt155.2 (decide (a1 ≤ 4096))) else (epicyclelaw10_TwiddleTables.j0 k a1 a2 bt150.1 bt150.2.1 bt150.2.2 bt155.1 bt155.2 false))))) else (some false))
set_option maxHeartbeats 8000000 in
set_option maxRecDepth 100000 in
theorem epicyclelaw10_TwiddleTables.calls (k : Nat) (a0_0 : Int) (a0_1 : Int) (a0_2 : Int) (A0_3 : Option Addr) (c0_3 : Nat) (l0_3 : List (S71)) (a1 : Int) (a2 : Bool) (w : World) (hr0_3 : Kd.C k71 w A0_3 l0_3.length l0_3) (hc0_3 : l0_3.length ≤ c0_3) (h : epicyclelaw10_TwiddleTables.f k a0_0 a0_1 a0_2 l0_3 a1 a2 = some true) :
  Calls Tryz.prog 4 #[.agg #[.int .i64 a0_0, .int .i64 a0_1, .int .u64 a0_2, .slice A0_3 l0_3.length c0_3], .int .i64 a1, .bool a2] w fun e w' => e = .returned (.bool true) ∧ Below w.heap.size w w' := by
 have hu25 := Tryz.underlying25
 have HR0_3 := Aside0.mk hr0_3
 have HC0_3 := Aside0.mk hc0_3
 clear hr0_3 hc0_3
 have HB := Aside0.mk (Below.refl w.heap.size w)
 have H := h; unfold epicyclelaw10_TwiddleTables.f at H
 clear h
 replace H := Option.bind_eq_some_iff.mp H
 obtain ⟨t149, A40, H⟩ := H
 (try dsimp only at H)
 have A4 := Aside0.mk A40
 clear A40
 by_cases c5 : t149 = true
 ·subst c5
  have H1 := H; rw [if_pos rfl] at H1
  clear H
  have H := H1
  clear H1
  replace H := Option.bind_eq_some_iff.mp H
  obtain ⟨⟨t150, t153, t154⟩, A60, H⟩ := H
  (try dsimp only at H)
  have A6 := Aside0.mk A60
  clear A60
  replace H := Option.bind_eq_some_iff.mp H
  obtain ⟨⟨t155, t156⟩, A70, H⟩ := H
  (try dsimp only at H)
  have A7 := Aside0.mk A70
  clear A70
  by_cases c8 : t153 = 0
  ·rw [if_pos c8] at H
   have c8b0 := beq_iff_eq.mpr c8
   have c8b1 := bne_eq_false_iff_eq.mpr c8
   clear c8
   by_cases c9 : (t150.length : Int) = 0
   ·rw [if_pos c9] at H
    have c9b0 := beq_iff_eq.mpr c9
    have c9b1 := bne_eq_false_iff_eq.mpr c9
    have hTl_t150 := Aside0.mk (show t150.length = 0 by omega)
    clear c9
    by_cases c10 : t155 = 0
    ·rw [if_pos c10] at H
     have c10b0 := beq_iff_eq.mpr c10
     have c10b1 := bne_eq_false_iff_eq.mpr c10
     clear c10
     have hR_ := Option.some.inj H
     go_enter Tryz.func4, Tryz.ntmps4
     go_wp2_with (first | ((with_reducible refine gate_dst (N := 3) rfl ?_); (try (refine gate_guard (by rfl) ?_; dsimp only)); refine box_event ?hg (N := 3) ?hd (cs := #[.int .i64 a0_0, .int .i64 a0_1, .int .u64 a0_2, .slice A0_3 l0_3.length c0_3]) (t := 25) ?hr ?_; (case hd => rfl); (case hg => rfl); (case hr => first | (go_simp; done) | (go_simp; rfl)); intro gb148 hg w11 hbox hb; have n0_ := Aside0.mk (below_step bel_ hb); have n1_ := Aside0.mk (hbox); have n2_ := Aside0.mk ((by rw [hg]; exact (below_size bel_) : w.heap.size ≤ gb148)); have n3_ := Aside0.mk ((by rw [hg]; exact (below_size bel_) : w.heap.size ≤ gb148)); clear HB; have HB := n0_; have BK148 := n1_; have GW148 := n2_; have GE148 := n3_; clear n0_ n1_ n2_ n3_; clear hb hbox hg) | (go_at_call 21; (with_reducible refine (epicyclelaw10_alive.calls k  true _ A4.out).mono ?_); rintro e w12 ⟨rfl, hb⟩; have n0_ := Aside0.mk (blk_below (g := gb148) (o := .cells #[.int .i64 a0_0, .int .i64 a0_1, .int .u64 a0_2, .slice A0_3 l0_3.length c0_3] 25 (0, 0)) (by (with_reducible repeat (first | refine blk_drewN ?_ _ | refine blk_drew ?_ | refine blk_alloc ?_ _)); exact BK148.out) hb); have n1_ := Aside0.mk (below_step bel_ hb); clear BK148; clear HB; have BK148 := n0_; have HB := n1_; clear n0_ n1_; (try clear hb); (try clear hb2); (try clear hk); (try clear hi); have hcz13_0 : w12.cell? ⟨gb148, 0, none⟩ = some (.int .i64 a0_0) := (blk_cell BK148.out 0).trans rfl; have hcz13_1 : w12.cell? ⟨gb148, 1, none⟩ = some (.int .i64 a0_1) := (blk_cell BK148.out 1).trans rfl; have hcz13_2 : w12.cell? ⟨gb148, 2, none⟩ = some (.int .u64 a0_2) := (blk_cell BK148.out 2).trans rfl; have hcz13_3 : w12.cell? ⟨gb148, 3, none⟩ = some (.slice A0_3 l0_3.length c0_3) := (blk_cell BK148.out 3).trans rfl; have hfz13_0 := blk_frozen BK148.out 0; have hfz13_1 := blk_frozen BK148.out 1; have hfz13_2 := blk_frozen BK148.out 2; have hfz13_3 := blk_frozen BK148.out 3) | (go_at_call 22; (with_reducible refine (epicyclelaw10_made.calls k a0_0 a0_1 a0_2 _ _ l0_3 t150 t153 t154 _ ?side1 ?side2 A6.out).mono ?_); (case side1 => repeat (first | exact (Kd.C_below HR0_3.out HB.out) | (with_reducible refine Kd.C_alloc ?_ _) | (with_reducible refine Kd.C_drewN ?_ _) | (with_reducible refine Kd.C_drew ?_))); (case side2 => exact HC0_3.out); rintro e w14 ⟨v151, rfl, ho0, hb⟩; have n0_ := Aside0.mk (Kd.R_lower ho0 (below_size bel_)); have n1_ := Aside0.mk (blk_below (g := gb148) (o := .cells #[.int .i64 a0_0, .int .i64 a0_1, .int .u64 a0_2, .slice A0_3 l0_3.length c0_3] 25 (0, 0)) (by (with_reducible repeat (first | refine blk_drewN ?_ _ | refine blk_drew ?_ | refine blk_alloc ?_ _)); exact BK148.out) hb); have n2_ := Aside0.mk (below_step bel_ hb); clear BK148; clear HB; have HO152 := n0_; have BK148 := n1_; have HB := n2_; clear n0_ n1_ n2_; (try clear hb); (try clear hb2); (try clear hk); (try clear hi); (try clear ho0); have hT_HO152 := pf_none_own HO152.out hTl_t150.out; obtain ⟨Ao15, co15, eo15⟩ := Kd.R_slice HO152.out; subst eo15) | (go_at_call 23; (try rw [← hT_HO152]); (with_reducible refine (twiddle_Root.calls k _ _ t150 a1 a2 t155 t156 _ ?side1 ?side2 A7.out).mono ?_); (case side1 => repeat (first | exact (Kd.R_reads' HO152.out).2.2 | (with_reducible refine Kd.C_alloc ?_ _) | (with_reducible refine Kd.C_drewN ?_ _) | (with_reducible refine Kd.C_drew ?_))); (case side2 => exact (Kd.R_reads' HO152.out).2.1); rintro e w' ⟨rfl, ⟨nd, rfl⟩⟩; (try first | exact ⟨rfl, _, World.drewN_drewN _ _ _⟩ | exact ⟨rfl, _, Eq.trans (World.drewN_drewN _ _ _) (congrArg (World.drewN _) (Nat.add_assoc _ _ _))⟩)))
     go_ret
     exact ⟨by first | rfl | (simp [errW_none, errW_some] <;> rfl) | (simp [*, errW_none, errW_some] <;> rfl), bel_⟩
    ·rw [if_neg c10] at H
     have c10b0 := beq_eq_false_iff_ne.mpr c10
     have c10b1 := bne_iff_ne.mpr c10
     exact absurd H (by simp)
   ·rw [if_neg c9] at H
    have c9b0 := beq_eq_false_iff_ne.mpr c9
    have c9b1 := bne_iff_ne.mpr c9
    have c9b2 : ¬ (t150 = []) := fun h_ => c9 (by rw [h_]; rfl)
    have hTl_t150 := Aside0.mk (show ¬ (t150.length = 0) by omega)
    exact absurd H (by simp)
  ·rw [if_neg c8] at H
   have c8b0 := beq_eq_false_iff_ne.mpr c8
   have c8b1 := bne_iff_ne.mpr c8
   have HC16 := Aside0.mk H
   clear H
   go_enter Tryz.func4, Tryz.ntmps4
   go_upto_region 7 with (first | ((with_reducible refine gate_dst (N := 3) rfl ?_); (try (refine gate_guard (by rfl) ?_; dsimp only)); refine box_event ?hg (N := 3) ?hd (cs := #[.int .i64 a0_0, .int .i64 a0_1, .int .u64 a0_2, .slice A0_3 l0_3.length c0_3]) (t := 25) ?hr ?_; (case hd => rfl); (case hg => rfl); (case hr => first | (go_simp; done) | (go_simp; rfl)); intro gb148 hg w17 hbox hb; have n0_ := Aside0.mk (below_step bel_ hb); have n1_ := Aside0.mk (hbox); have n2_ := Aside0.mk ((by rw [hg]; exact (below_size bel_) : w.heap.size ≤ gb148)); have n3_ := Aside0.mk ((by rw [hg]; exact (below_size bel_) : w.heap.size ≤ gb148)); clear HB; have HB := n0_; have BK148 := n1_; have GW148 := n2_; have GE148 := n3_; clear n0_ n1_ n2_ n3_; clear hb hbox hg) | (go_at_call 21; (with_reducible refine (epicyclelaw10_alive.calls k  true _ A4.out).mono ?_); rintro e w18 ⟨rfl, hb⟩; have n0_ := Aside0.mk (blk_below (g := gb148) (o := .cells #[.int .i64 a0_0, .int .i64 a0_1, .int .u64 a0_2, .slice A0_3 l0_3.length c0_3] 25 (0, 0)) (by (with_reducible repeat (first | refine blk_drewN ?_ _ | refine blk_drew ?_ | refine blk_alloc ?_ _)); exact BK148.out) hb); have n1_ := Aside0.mk (below_step bel_ hb); clear BK148; clear HB; have BK148 := n0_; have HB := n1_; clear n0_ n1_; (try clear hb); (try clear hb2); (try clear hk); (try clear hi); have hcz19_0 : w18.cell? ⟨gb148, 0, none⟩ = some (.int .i64 a0_0) := (blk_cell BK148.out 0).trans rfl; have hcz19_1 : w18.cell? ⟨gb148, 1, none⟩ = some (.int .i64 a0_1) := (blk_cell BK148.out 1).trans rfl; have hcz19_2 : w18.cell? ⟨gb148, 2, none⟩ = some (.int .u64 a0_2) := (blk_cell BK148.out 2).trans rfl; have hcz19_3 : w18.cell? ⟨gb148, 3, none⟩ = some (.slice A0_3 l0_3.length c0_3) := (blk_cell BK148.out 3).trans rfl; have hfz19_0 := blk_frozen BK148.out 0; have hfz19_1 := blk_frozen BK148.out 1; have hfz19_2 := blk_frozen BK148.out 2; have hfz19_3 := blk_frozen BK148.out 3) | (go_at_call 22; (with_reducible refine (epicyclelaw10_made.calls k a0_0 a0_1 a0_2 _ _ l0_3 t150 t153 t154 _ ?side1 ?side2 A6.out).mono ?_); (case side1 => repeat (first | exact (Kd.C_below HR0_3.out HB.out) | (with_reducible refine Kd.C_alloc ?_ _) | (with_reducible refine Kd.C_drewN ?_ _) | (with_reducible refine Kd.C_drew ?_))); (case side2 => exact HC0_3.out); rintro e w20 ⟨v151, rfl, ho0, hb⟩; have n0_ := Aside0.mk (Kd.R_lower ho0 (below_size bel_)); have n1_ := Aside0.mk (blk_below (g := gb148) (o := .cells #[.int .i64 a0_0, .int .i64 a0_1, .int .u64 a0_2, .slice A0_3 l0_3.length c0_3] 25 (0, 0)) (by (with_reducible repeat (first | refine blk_drewN ?_ _ | refine blk_drew ?_ | refine blk_alloc ?_ _)); exact BK148.out) hb); have n2_ := Aside0.mk (below_step bel_ hb); clear BK148; clear HB; have HO152 := n0_; have BK148 := n1_; have HB := n2_; clear n0_ n1_ n2_; (try clear hb); (try clear hb2); (try clear hk); (try clear hi); (try clear ho0); obtain ⟨Ao21, co21, eo21⟩ := Kd.R_slice HO152.out; subst eo21) | (go_at_call 23; (try rw [← hT_HO152]); (with_reducible refine (twiddle_Root.calls k _ _ t150 a1 a2 t155 t156 _ ?side1 ?side2 A7.out).mono ?_); (case side1 => repeat (first | exact (Kd.R_reads' HO152.out).2.2 | (with_reducible refine Kd.C_alloc ?_ _) | (with_reducible refine Kd.C_drewN ?_ _) | (with_reducible refine Kd.C_drew ?_))); (case side2 => exact (Kd.R_reads' HO152.out).2.1); rintro e w' ⟨rfl, ⟨nd, rfl⟩⟩; (try first | exact ⟨rfl, _, World.drewN_drewN _ _ _⟩ | exact ⟨rfl, _, Eq.trans (World.drewN_drewN _ _ _) (congrArg (World.drewN _) (Nat.add_assoc _ _ _))⟩)))
   (try simp only [Act.put, List.setIfInBounds_toArray, List.set_cons_zero, List.set_cons_succ])
   go_cut [53] (fun v53 wc => ∃ (kq : Nat) (x53_15 : Bool), v53 = .bool x53_15 ∧ Aside0 (epicyclelaw10_TwiddleTables.j0 kq a1 a2 t150 t153 t154 t155 t156 x53_15 = some true) ∧ Aside0 (kq ≤ k) ∧ Aside0 (Kd.R kFld 59 wc w.heap.size (fun _ => True) (.slice Ao21 t150.length co21) t150) ∧ Aside0 (wc.heap[gb148]? = some (.cells #[.int .i64 a0_0, .int .i64 a0_1, .int .u64 a0_2, (.slice A0_3 l0_3.length c0_3)] 25 (0, 0))) ∧ Aside0 (Below w.heap.size w wc))
   case first =>
    have H := HC16.out
    clear HC16
    by_cases c22 : a1 > 300
    ·rw [if_pos c22] at H
     have c22b0 := decide_eq_true c22
     clear c22
     (first | rw [c22b0] | (simp only [i64_w, i32_w]; rw [c22b0]) | skip)
     have H' := Aside0.mk H
     clear H
     go_wp2
     go_meet
     case rel => exact ⟨_, (decide (a1 ≤ 4096)), (by first | rfl | (simp; done) | (simp [*]; done)), H', ⟨by first | omega | exact Nat.le_refl _⟩, ⟨by (with_reducible repeat (first | apply Kd.R_alloc | apply Kd.R_drewN | apply Kd.R_drew)); exact HO152.out⟩, ⟨by (with_reducible repeat (first | refine blk_drewN ?_ _ | refine blk_drew ?_ | refine blk_alloc ?_ _)); exact BK148.out⟩, ⟨bel_⟩⟩
    ·rw [if_neg c22] at H
     have c22b0 := decide_eq_false c22
     clear c22
     (first | rw [c22b0] | (simp only [i64_w, i32_w]; rw [c22b0]) | skip)
     have H' := Aside0.mk H
     clear H
     go_wp2
     go_meet
     case rel => exact ⟨_, (false), (by first | rfl | (simp; done) | (simp [*]; done)), H', ⟨by first | omega | exact Nat.le_refl _⟩, ⟨by (with_reducible repeat (first | apply Kd.R_alloc | apply Kd.R_drewN | apply Kd.R_drew)); exact HO152.out⟩, ⟨by (with_reducible repeat (first | refine blk_drewN ?_ _ | refine blk_drew ?_ | refine blk_alloc ?_ _)); exact BK148.out⟩, ⟨bel_⟩⟩
   case rest =>
    clear HC16
    try clear c1
    try clear c2
    try clear p2
    try clear c4
    try clear c5
    try clear c8
    try clear c8b0
    try clear c8b1
    try clear c9
    try clear c9b0
    try clear c9b1
    try clear c9b2
    try clear c10
    try clear c10b0
    try clear c10b1
    try clear c22
    try clear c22b0
    try clear hcz13_0
    try clear hcz13_1
    try clear hcz13_2
    try clear hcz13_3
    try clear hcz19_0
    try clear hcz19_1
    try clear hcz19_2
    try clear hcz19_3
    try clear hfz13_0
    try clear hfz13_1
    try clear hfz13_2
    try clear hfz13_3
    try clear hfz19_0
    try clear hfz19_1
    try clear hfz19_2
    try clear hfz19_3
    obtain ⟨kq, x53_15, rfl, HA, HJ15, HO_7, BK148, HB⟩ := hcut
    cases kq with
    | zero => exact absurd HA.out (by simp [epicyclelaw10_TwiddleTables.j0])
    | succ kj15 =>
     have H := HA.out
     clear HA
     simp only [epicyclelaw10_TwiddleTables.j0] at H
     by_cases c23 : x53_15 = true
     ·subst c23
      have H1 := H; rw [if_pos rfl] at H1
      clear H
      have H := H1
      clear H1
      clear H
      go_wp2
      go_ret
      exact ⟨by first | rfl | (simp [errW_none, errW_some] <;> rfl) | (simp [*, errW_none, errW_some] <;> rfl), bel_⟩
     ·replace c23 := Bool.eq_false_iff.mpr c23
      subst c23
      have H1 := H; rw [if_neg (show ¬ (false = true) by decide)] at H1
      clear H
      have H := H1
      clear H1
      replace H := Option.bind_eq_some_iff.mp H
      obtain ⟨⟨t157, t158⟩, A240, H⟩ := H
      (try dsimp only at H)
      have A24 := Aside0.mk A240
      clear A240
      replace H := Option.bind_eq_some_iff.mp H
      obtain ⟨⟨t159, t160⟩, A250, H⟩ := H
      (try dsimp only at H)
      have A25 := Aside0.mk A250
      clear A250
      replace H := Option.bind_eq_some_iff.mp H
      obtain ⟨⟨t163, t164⟩, A260, H⟩ := H
      (try dsimp only at H)
      have A26 := Aside0.mk A260
      clear A260
      have HC27 := Aside0.mk H
      clear H
      go_upto_region 12 with (first | (go_at_call 24; (with_reducible refine (epicycleref10_Root.calls kj15 t153 t154 a1 a2 t157 t158 _ A24.out).mono ?_); rintro e w' ⟨rfl, ⟨nd, rfl⟩⟩; (try first | exact ⟨rfl, _, World.drewN_drewN _ _ _⟩ | exact ⟨rfl, _, Eq.trans (World.drewN_drewN _ _ _) (congrArg (World.drewN _) (Nat.add_assoc _ _ _))⟩)) | (go_at_call 25; (try rw [← hT_HO_7]); (with_reducible refine (twiddle_Table.calls kj15 _ _ t150 a1 a2 t159 t160 _ ?side1 ?side2 A25.out).mono ?_); (case side1 => repeat (first | exact (Kd.R_reads' HO_7.out).2.2 | (with_reducible refine Kd.C_alloc ?_ _) | (with_reducible refine Kd.C_drewN ?_ _) | (with_reducible refine Kd.C_drew ?_))); (case side2 => exact (Kd.R_reads' HO_7.out).2.1); rintro e w28 ⟨v161, rfl, ho0, hb⟩; have n0_ := Aside0.mk (Kd.R_below (by (with_reducible repeat (first | apply Kd.R_alloc | apply Kd.R_drewN | apply Kd.R_drew)); exact HO_7.out) hb); have n1_ := Aside0.mk (Kd.R_lower ho0 (below_size bel_)); have n2_ := Aside0.mk (blk_below (g := gb148) (o := .cells #[.int .i64 a0_0, .int .i64 a0_1, .int .u64 a0_2, .slice A0_3 l0_3.length c0_3] 25 (0, 0)) (by (with_reducible repeat (first | refine blk_drewN ?_ _ | refine blk_drew ?_ | refine blk_alloc ?_ _)); exact BK148.out) hb); have n3_ := Aside0.mk (below_step bel_ hb); clear HO_7; clear BK148; clear HB; have HO_7 := n0_; have HO162 := n1_; have BK148 := n2_; have HB := n3_; clear n0_ n1_ n2_ n3_; (try clear hb); (try clear hb2); (try clear hk); (try clear hi); (try clear ho0)) | (go_at_call 26; (try rw [← hT_HO_7]); (with_reducible refine (twiddle_Lifted.calls kj15 _ _ t150 a1 a2 t163 t164 _ ?side1 ?side2 A26.out).mono ?_); (case side1 => repeat (first | exact (Kd.R_reads' HO_7.out).2.2 | (with_reducible refine Kd.C_alloc ?_ _) | (with_reducible refine Kd.C_drewN ?_ _) | (with_reducible refine Kd.C_drew ?_))); (case side2 => exact (Kd.R_reads' HO_7.out).2.1); rintro e w29 ⟨v165, rfl, ho0, hb⟩; have n0_ := Aside0.mk (Kd.R_below (by (with_reducible repeat (first | apply Kd.R_alloc | apply Kd.R_drewN | apply Kd.R_drew)); exact HO_7.out) hb); have n1_ := Aside0.mk (Kd.R_elder' (by (with_reducible repeat (first | apply Kd.R_alloc | apply Kd.R_drewN | apply Kd.R_drew)); exact HO162.out) (Kd.R_base ho0) hb); have n2_ := Aside0.mk (Kd.R_lower (Kd.R_new' ho0 (Kd.R_lt (by (with_reducible repeat (first | apply Kd.R_alloc | apply Kd.R_drewN | apply Kd.R_drew)); exact HO162.out))) (below_size bel_)); have n3_ := Aside0.mk (blk_below (g := gb148) (o := .cells #[.int .i64 a0_0, .int .i64 a0_1, .int .u64 a0_2, .slice A0_3 l0_3.length c0_3] 25 (0, 0)) (by (with_reducible repeat (first | refine blk_drewN ?_ _ | refine blk_drew ?_ | refine blk_alloc ?_ _)); exact BK148.out) hb); have n4_ := Aside0.mk (below_step bel_ hb); clear HO_7; clear HO162; clear BK148; clear HB; have HO_7 := n0_; have HO162 := n1_; have HO166 := n2_; have BK148 := n3_; have HB := n4_; clear n0_ n1_ n2_ n3_ n4_; (try clear hb); (try clear hb2); (try clear hk); (try clear hi); (try clear ho0)))
      (try simp only [Act.put, List.setIfInBounds_toArray, List.set_cons_zero, List.set_cons_succ])
      go_cut [93] (fun v93 wc => ∃ (kq : Nat) (x93_26 : Bool), v93 = .bool x93_26 ∧ Aside0 (epicyclelaw10_TwiddleTables.j1 kq a1 t150 t153 t155 t158 t159 t163 x93_26 = some true) ∧ Aside0 (kq ≤ kj15) ∧ Aside0 (Kd.R kFld 59 wc w.heap.size (fun _ => True) (.slice Ao21 t150.length co21) t150) ∧ Aside0 (Kd.R (Kd.int .u64) 22 wc w.heap.size (fun k_ => some k_ ≠ (v165 : Value).ownBlock) v161 t159) ∧ Aside0 (Kd.R (Kd.int .u64) 22 wc w.heap.size (fun k_ => some k_ ≠ (v161 : Value).ownBlock) v165 t163) ∧ Aside0 (wc.heap[gb148]? = some (.cells #[.int .i64 a0_0, .int .i64 a0_1, .int .u64 a0_2, (.slice A0_3 l0_3.length c0_3)] 25 (0, 0))) ∧ Aside0 (Below w.heap.size w wc))
      case first =>
       have H := HC27.out
       clear HC27
       by_cases c30 : t155 = t157
       ·rw [if_pos c30] at H
        have c30b0 := beq_iff_eq.mpr c30
        have c30b1 := bne_eq_false_iff_eq.mpr c30
        clear c30
        (first | rw [c30b0] | (simp only [i64_w, i32_w]; rw [c30b0]) | skip)
        by_cases c31 : t156 = t158
        ·rw [if_pos c31] at H
         have c31b0 := beq_iff_eq.mpr c31
         have c31b1 := bne_eq_false_iff_eq.mpr c31
         clear c31
         by_cases c32 : t156 = t160
         ·rw [if_pos c32] at H
          have c32b0 := beq_iff_eq.mpr c32
          have c32b1 := bne_eq_false_iff_eq.mpr c32
          clear c32
          have H' := Aside0.mk H
          clear H
          go_wp2
          go_meet
          case rel => exact ⟨_, ((t156 != t164)), (by first | rfl | (simp; done) | (simp [*]; done)), H', ⟨by have := HJ15.out; first | omega | exact Nat.le_refl _⟩, ⟨by (with_reducible repeat (first | apply Kd.R_alloc | apply Kd.R_drewN | apply Kd.R_drew)); exact HO_7.out⟩, ⟨by (with_reducible repeat (first | apply Kd.R_alloc | apply Kd.R_drewN | apply Kd.R_drew)); exact Kd.R_mono HO162.out (fun _ hk => hk.2)⟩, ⟨by (with_reducible repeat (first | apply Kd.R_alloc | apply Kd.R_drewN | apply Kd.R_drew)); exact Kd.R_mono HO166.out (fun _ hk => hk.2)⟩, ⟨by (with_reducible repeat (first | refine blk_drewN ?_ _ | refine blk_drew ?_ | refine blk_alloc ?_ _)); exact BK148.out⟩, ⟨bel_⟩⟩
         ·rw [if_neg c32] at H
          have c32b0 := beq_eq_false_iff_ne.mpr c32
          have c32b1 := bne_iff_ne.mpr c32
          have H' := Aside0.mk H
          clear H
          go_wp2
          go_meet
          case rel => exact ⟨_, (true), (by first | rfl | (simp; done) | (simp [*]; done)), H', ⟨by have := HJ15.out; first | omega | exact Nat.le_refl _⟩, ⟨by (with_reducible repeat (first | apply Kd.R_alloc | apply Kd.R_drewN | apply Kd.R_drew)); exact HO_7.out⟩, ⟨by (with_reducible repeat (first | apply Kd.R_alloc | apply Kd.R_drewN | apply Kd.R_drew)); exact Kd.R_mono HO162.out (fun _ hk => hk.2)⟩, ⟨by (with_reducible repeat (first | apply Kd.R_alloc | apply Kd.R_drewN | apply Kd.R_drew)); exact Kd.R_mono HO166.out (fun _ hk => hk.2)⟩, ⟨by (with_reducible repeat (first | refine blk_drewN ?_ _ | refine blk_drew ?_ | refine blk_alloc ?_ _)); exact BK148.out⟩, ⟨bel_⟩⟩
        ·rw [if_neg c31] at H
         have c31b0 := beq_eq_false_iff_ne.mpr c31
         have c31b1 := bne_iff_ne.mpr c31
         have H' := Aside0.mk H
         clear H
         go_wp2
         go_meet
         case rel => exact ⟨_, (true), (by first | rfl | (simp; done) | (simp [*]; done)), H', ⟨by have := HJ15.out; first | omega | exact Nat.le_refl _⟩, ⟨by (with_reducible repeat (first | apply Kd.R_alloc | apply Kd.R_drewN | apply Kd.R_drew)); exact HO_7.out⟩, ⟨by (with_reducible repeat (first | apply Kd.R_alloc | apply Kd.R_drewN | apply Kd.R_drew)); exact Kd.R_mono HO162.out (fun _ hk => hk.2)⟩, ⟨by (with_reducible repeat (first | apply Kd.R_alloc | apply Kd.R_drewN | apply Kd.R_drew)); exact Kd.R_mono HO166.out (fun _ hk => hk.2)⟩, ⟨by (with_reducible repeat (first | refine blk_drewN ?_ _ | refine blk_drew ?_ | refine blk_alloc ?_ _)); exact BK148.out⟩, ⟨bel_⟩⟩
       ·rw [if_neg c30] at H
        have c30b0 := beq_eq_false_iff_ne.mpr c30
        have c30b1 := bne_iff_ne.mpr c30
        (first | rw [c30b0] | (simp only [i64_w, i32_w]; rw [c30b0]) | skip)
        have H' := Aside0.mk H
        clear H
        go_wp2
        go_meet
        case rel => exact ⟨_, (true), (by first | rfl | (simp; done) | (simp [*]; done)), H', ⟨by have := HJ15.out; first | omega | exact Nat.le_refl _⟩, ⟨by (with_reducible repeat (first | apply Kd.R_alloc | apply Kd.R_drewN | apply Kd.R_drew)); exact HO_7.out⟩, ⟨by (with_reducible repeat (first | apply Kd.R_alloc | apply Kd.R_drewN | apply Kd.R_drew)); exact Kd.R_mono HO162.out (fun _ hk => hk.2)⟩, ⟨by (with_reducible repeat (first | apply Kd.R_alloc | apply Kd.R_drewN | apply Kd.R_drew)); exact Kd.R_mono HO166.out (fun _ hk => hk.2)⟩, ⟨by (with_reducible repeat (first | refine blk_drewN ?_ _ | refine blk_drew ?_ | refine blk_alloc ?_ _)); exact BK148.out⟩, ⟨bel_⟩⟩
      case rest =>
       clear HC27
       try clear c1
       try clear c2
       try clear p2
       try clear c3
       try clear c4
       try clear c5
       try clear c8
       try clear c8b0
       try clear c8b1
       try clear c9
       try clear c9b0
       try clear c9b1
       try clear c9b2
       try clear c10
       try clear c10b0
       try clear c10b1
       try clear c22
       try clear c22b0
       try clear c23
       try clear c30
       try clear c30b0
       try clear c30b1
       try clear c31
       try clear c31b0
       try clear c31b1
       try clear c32
       try clear c32b0
       try clear c32b1
       try clear hcz13_0
       try clear hcz13_1
       try clear hcz13_2
       try clear hcz13_3
       try clear hcz19_0
       try clear hcz19_1
       try clear hcz19_2
       try clear hcz19_3
       try clear hfz13_0
       try clear hfz13_1
       try clear hfz13_2
       try clear hfz13_3
       try clear hfz19_0
       try clear hfz19_1
       try clear hfz19_2
       try clear hfz19_3
       try clear p2
       obtain ⟨kq, x93_26, rfl, HA, HJ26, HO_7, HO_14, HO_16, BK148, HB⟩ := hcut
       cases kq with
       | zero => exact absurd HA.out (by simp [epicyclelaw10_TwiddleTables.j1])
       | succ kj26 =>
        have H := HA.out
        clear HA
        simp only [epicyclelaw10_TwiddleTables.j1] at H
        by_cases c33 : x93_26 = true
        ·subst c33
         have H1 := H; rw [if_pos rfl] at H1
         clear H
         have H := H1
         clear H1
         exact absurd H (by simp)
        ·replace c33 := Bool.eq_false_iff.mpr c33
         subst c33
         have H1 := H; rw [if_neg (show ¬ (false = true) by decide)] at H1
         clear H
         have H := H1
         clear H1
         by_cases c34 : t158 = 0
         ·rw [if_pos c34] at H
          have c34b0 := beq_iff_eq.mpr c34
          have c34b1 := bne_eq_false_iff_eq.mpr c34
          clear c34
          replace H := Option.bind_eq_some_iff.mp H
          obtain ⟨t167, A350, H⟩ := H
          (try dsimp only at H)
          have A35 := Aside0.mk A350
          clear A350
          have HC36 := Aside0.mk H
          clear H
          go_upto_region 17 with (first | (go_at_call 27; (with_reducible refine (epicycleref10_Table.calls kj26 t153 t155 a1 t167 _ A35.out).mono ?_); rintro e w37 ⟨v168, rfl, ho0, hb⟩; have n0_ := Aside0.mk (Kd.R_below (by (with_reducible repeat (first | apply Kd.R_alloc | apply Kd.R_drewN | apply Kd.R_drew)); exact HO_7.out) hb); have n1_ := Aside0.mk (Kd.R_elder' (by (with_reducible repeat (first | apply Kd.R_alloc | apply Kd.R_drewN | apply Kd.R_drew)); exact HO_14.out) (Kd.R_base ho0) hb); have n2_ := Aside0.mk (Kd.R_elder' (by (with_reducible repeat (first | apply Kd.R_alloc | apply Kd.R_drewN | apply Kd.R_drew)); exact HO_16.out) (Kd.R_base ho0) hb); have n3_ := Aside0.mk (Kd.R_lower (Kd.R_new' (Kd.R_new' ho0 (Kd.R_lt (by (with_reducible repeat (first | apply Kd.R_alloc | apply Kd.R_drewN | apply Kd.R_drew)); exact HO_14.out))) (Kd.R_lt (by (with_reducible repeat (first | apply Kd.R_alloc | apply Kd.R_drewN | apply Kd.R_drew)); exact HO_16.out))) (below_size bel_)); have n4_ := Aside0.mk (blk_below (g := gb148) (o := .cells #[.int .i64 a0_0, .int .i64 a0_1, .int .u64 a0_2, .slice A0_3 l0_3.length c0_3] 25 (0, 0)) (by (with_reducible repeat (first | refine blk_drewN ?_ _ | refine blk_drew ?_ | refine blk_alloc ?_ _)); exact BK148.out) hb); have n5_ := Aside0.mk (below_step bel_ hb); clear HO_7; clear HO_14; clear HO_16; clear BK148; clear HB; have HO_7 := n0_; have HO_14 := n1_; have HO_16 := n2_; have HO169 := n3_; have BK148 := n4_; have HB := n5_; clear n0_ n1_ n2_ n3_ n4_ n5_; (try clear hb); (try clear hb2); (try clear hk); (try clear hi); (try clear ho0)))
          (try simp only [Act.put, List.setIfInBounds_toArray, List.set_cons_zero, List.set_cons_succ])
          go_cut [117] (fun v117 wc => ∃ (kq : Nat) (x117_35 : Bool), v117 = .bool x117_35 ∧ Aside0 (epicyclelaw10_TwiddleTables.j2 kq t150 t159 t163 t167 x117_35 = some true) ∧ Aside0 (kq ≤ kj26) ∧ Aside0 (Kd.R kFld 59 wc w.heap.size (fun _ => True) (.slice Ao21 t150.length co21) t150) ∧ Aside0 (Kd.R (Kd.int .u64) 22 wc w.heap.size (fun k_ => some k_ ≠ (v165 : Value).ownBlock ∧ some k_ ≠ (v168 : Value).ownBlock) v161 t159) ∧ Aside0 (Kd.R (Kd.int .u64) 22 wc w.heap.size (fun k_ => some k_ ≠ (v161 : Value).ownBlock ∧ some k_ ≠ (v168 : Value).ownBlock) v165 t163) ∧ Aside0 (Kd.R (Kd.int .u64) 22 wc w.heap.size (fun k_ => some k_ ≠ (v161 : Value).ownBlock ∧ some k_ ≠ (v165 : Value).ownBlock) v168 t167) ∧ Aside0 (wc.heap[gb148]? = some (.cells #[.int .i64 a0_0, .int .i64 a0_1, .int .u64 a0_2, (.slice A0_3 l0_3.length c0_3)] 25 (0, 0))) ∧ Aside0 (Below w.heap.size w wc))
          case first =>
           have H := HC36.out
           clear HC36
           by_cases c38 : (t159.length : Int) = a1
           ·rw [if_pos c38] at H
            have c38b0 := beq_iff_eq.mpr c38
            have c38b1 := bne_eq_false_iff_eq.mpr c38
            clear c38
            (first | rw [c38b0] | (simp only [i64_w, i32_w]; rw [c38b0]) | skip)
            have H' := Aside0.mk H
            clear H
            obtain ⟨Ao39, co39, eo39⟩ := Kd.R_slice HO_14.out
            subst eo39
            obtain ⟨Ao40, co40, eo40⟩ := Kd.R_slice HO_16.out
            subst eo40
            go_wp2
            go_meet
            case rel => exact ⟨_, (((t163.length : Int) != a1)), (by first | rfl | (simp; done) | (simp [*]; done)), H', ⟨by have := HJ15.out; have := HJ26.out; first | omega | exact Nat.le_refl _⟩, ⟨by (with_reducible repeat (first | apply Kd.R_alloc | apply Kd.R_drewN | apply Kd.R_drew)); exact HO_7.out⟩, ⟨by (with_reducible repeat (first | apply Kd.R_alloc | apply Kd.R_drewN | apply Kd.R_drew)); exact HO_14.out⟩, ⟨by (with_reducible repeat (first | apply Kd.R_alloc | apply Kd.R_drewN | apply Kd.R_drew)); exact HO_16.out⟩, ⟨by (with_reducible repeat (first | apply Kd.R_alloc | apply Kd.R_drewN | apply Kd.R_drew)); exact Kd.R_mono HO169.out (fun _ hk => ⟨hk.1.2, hk.2⟩)⟩, ⟨by (with_reducible repeat (first | refine blk_drewN ?_ _ | refine blk_drew ?_ | refine blk_alloc ?_ _)); exact BK148.out⟩, ⟨bel_⟩⟩
           ·rw [if_neg c38] at H
            have c38b0 := beq_eq_false_iff_ne.mpr c38
            have c38b1 := bne_iff_ne.mpr c38
            (first | rw [c38b0] | (simp only [i64_w, i32_w]; rw [c38b0]) | skip)
            have H' := Aside0.mk H
            clear H
            obtain ⟨Ao41, co41, eo41⟩ := Kd.R_slice HO_14.out
            subst eo41
            go_wp2
            go_meet
            case rel => exact ⟨_, (true), (by first | rfl | (simp; done) | (simp [*]; done)), H', ⟨by have := HJ15.out; have := HJ26.out; first | omega | exact Nat.le_refl _⟩, ⟨by (with_reducible repeat (first | apply Kd.R_alloc | apply Kd.R_drewN | apply Kd.R_drew)); exact HO_7.out⟩, ⟨by (with_reducible repeat (first | apply Kd.R_alloc | apply Kd.R_drewN | apply Kd.R_drew)); exact HO_14.out⟩, ⟨by (with_reducible repeat (first | apply Kd.R_alloc | apply Kd.R_drewN | apply Kd.R_drew)); exact HO_16.out⟩, ⟨by (with_reducible repeat (first | apply Kd.R_alloc | apply Kd.R_drewN | apply Kd.R_drew)); exact Kd.R_mono HO169.out (fun _ hk => ⟨hk.1.2, hk.2⟩)⟩, ⟨by (with_reducible repeat (first | refine blk_drewN ?_ _ | refine blk_drew ?_ | refine blk_alloc ?_ _)); exact BK148.out⟩, ⟨bel_⟩⟩
          case rest =>
           clear HC36
           try clear c1
           try clear c2
           try clear p2
           try clear c3
           try clear c4
           try clear c5
           try clear c8
           try clear c8b0
           try clear c8b1
           try clear c9
           try clear c9b0
           try clear c9b1
           try clear c9b2
           try clear c10
           try clear c10b0
           try clear c10b1
           try clear c22
           try clear c22b0
           try clear c23
           try clear c30
           try clear c30b0
           try clear c30b1
           try clear c31
           try clear c31b0
           try clear c31b1
           try clear c32
           try clear c32b0
           try clear c32b1
           try clear c33
           try clear c34
           try clear c34b0
           try clear c34b1
           try clear c38
           try clear c38b0
           try clear c38b1
           try clear hcz13_0
           try clear hcz13_1
           try clear hcz13_2
           try clear hcz13_3
           try clear hcz19_0
           try clear hcz19_1
           try clear hcz19_2
           try clear hcz19_3
           try clear hfz13_0
           try clear hfz13_1
           try clear hfz13_2
           try clear hfz13_3
           try clear hfz19_0
           try clear hfz19_1
           try clear hfz19_2
           try clear hfz19_3
           try clear p2
           obtain ⟨kq, x117_35, rfl, HA, HJ35, HO_7, HO_14, HO_16, HO_18, BK148, HB⟩ := hcut
           cases kq with
           | zero => exact absurd HA.out (by simp [epicyclelaw10_TwiddleTables.j2])
           | succ kj35 =>
            have H := HA.out
            clear HA
            simp only [epicyclelaw10_TwiddleTables.j2] at H
            by_cases c42 : x117_35 = true
            ·subst c42
             have H1 := H; rw [if_pos rfl] at H1
             clear H
             have H := H1
             clear H1
             exact absurd H (by simp)
            ·replace c42 := Bool.eq_false_iff.mpr c42
             subst c42
             have H1 := H; rw [if_neg (show ¬ (false = true) by decide)] at H1
             clear H
             have H := H1
             clear H1
             have H' := Aside0.mk H
             clear H
             obtain ⟨Ao43, co43, eo43⟩ := Kd.R_slice HO_18.out
             subst eo43
             go_wp2
             go_loopg [120] kj35 (fun kq v120 w' => ∃ (x120_4 : Int), v120 = .int .i64 x120_4 ∧ Aside0 (epicyclelaw10_TwiddleTables.l0 kq t150 t159 t163 t167 (t167.length : Int) x120_4 = some true) ∧ Aside0 (kq ≤ kj35) ∧ Aside0 (Kd.R kFld 59 w' w.heap.size (fun _ => True) (.slice Ao21 t150.length co21) t150) ∧ Aside0 (Kd.R (Kd.int .u64) 22 w' w.heap.size (fun k_ => some k_ ≠ (v165 : Value).ownBlock ∧ some k_ ≠ ((.slice Ao43 t167.length co43) : Value).ownBlock) v161 t159) ∧ Aside0 (Kd.R (Kd.int .u64) 22 w' w.heap.size (fun k_ => some k_ ≠ (v161 : Value).ownBlock ∧ some k_ ≠ ((.slice Ao43 t167.length co43) : Value).ownBlock) v165 t163) ∧ Aside0 (Kd.R (Kd.int .u64) 22 w' w.heap.size (fun k_ => some k_ ≠ (v161 : Value).ownBlock ∧ some k_ ≠ (v165 : Value).ownBlock) (.slice Ao43 t167.length co43) t167) ∧ Aside0 (w'.heap[gb148]? = some (.cells #[.int .i64 a0_0, .int .i64 a0_1, .int .u64 a0_2, (.slice A0_3 l0_3.length c0_3)] 25 (0, 0))) ∧ Aside0 (Below w.heap.size w w'))
             case atStart => exact ⟨(0), (by first | rfl | (simp; done) | (simp [*]; done)), H', ⟨Nat.le_refl _⟩, ⟨by (with_reducible repeat (first | apply Kd.R_alloc | apply Kd.R_drewN | apply Kd.R_drew)); exact HO_7.out⟩, ⟨by (with_reducible repeat (first | apply Kd.R_alloc | apply Kd.R_drewN | apply Kd.R_drew)); exact HO_14.out⟩, ⟨by (with_reducible repeat (first | apply Kd.R_alloc | apply Kd.R_drewN | apply Kd.R_drew)); exact HO_16.out⟩, ⟨by (with_reducible repeat (first | apply Kd.R_alloc | apply Kd.R_drewN | apply Kd.R_drew)); exact HO_18.out⟩, ⟨by (with_reducible repeat (first | refine blk_drewN ?_ _ | refine blk_drew ?_ | refine blk_alloc ?_ _)); exact BK148.out⟩, ⟨bel_⟩⟩
             case round =>
              clear H'
              try clear c1
              try clear c2
              try clear p2
              try clear c3
              try clear c4
              try clear c5
              try clear c8
              try clear c8b0
              try clear c8b1
              try clear c9
              try clear c9b0
              try clear c9b1
              try clear c9b2
              try clear c10
              try clear c10b0
              try clear c10b1
              try clear c22
              try clear c22b0
              try clear c23
              try clear c30
              try clear c30b0
              try clear c30b1
              try clear c31
              try clear c31b0
              try clear c31b1
              try clear c32
              try clear c32b0
              try clear c32b1
              try clear c33
              try clear c34
              try clear c34b0
              try clear c34b1
              try clear c38
              try clear c38b0
              try clear c38b1
              try clear c42
              try clear hcz13_0
              try clear hcz13_1
              try clear hcz13_2
              try clear hcz13_3
              try clear hcz19_0
              try clear hcz19_1
              try clear hcz19_2
              try clear hcz19_3
              try clear hfz13_0
              try clear hfz13_1
              try clear hfz13_2
              try clear hfz13_3
              try clear hfz19_0
              try clear hfz19_1
              try clear hfz19_2
              try clear hfz19_3
              try clear p2
              obtain ⟨x120_4, rfl, HA, HK4, HO_7, HO_14, HO_16, HO_118, BK148, HB⟩ := hrel
              cases gk with
              | zero => exact absurd HA.out (by simp [epicyclelaw10_TwiddleTables.l0])
              | succ k4 =>
               have H := HA.out
               clear HA
               simp only [epicyclelaw10_TwiddleTables.l0] at H
               by_cases c44 : x120_4 < (t167.length : Int)
               ·rw [if_pos c44] at H
                have c44b0 := decide_eq_true c44
                clear c44
                by_cases c45 : 0 ≤ x120_4
                ·rw [if_pos c45] at H
                 have c45b0 := decide_eq_true c45
                 clear c45
                 by_cases c46 : x120_4 < (t167.length : Int)
                 ·rw [if_pos c46] at H
                  have c46b0 := decide_eq_true c46
                  clear c46
                  have HC47 := Aside0.mk H
                  clear H
                  have p170 : 0 ≤ (x120_4 : Int) := of_decide_eq_true (by assumption)
                  have q170 : x120_4 < (t167.length : Int) := of_decide_eq_true (by assumption)
                  obtain ⟨ad170, e170, hx170_0⟩ := Kd.at_int (Kd.R_reads' HO_118.out).2.2 x120_4 p170 q170
                  cases e170
                  replace p170 := eq_true p170
                  replace q170 := eq_true q170
                  go_upto_region 22 with (fail)
                  go_cut [140] (fun v140 wc => ∃ (kq : Nat) (x140_46 : Bool), v140 = .bool x140_46 ∧ Aside0 (epicyclelaw10_TwiddleTables.j4 kq t150 t159 t163 t167 (t167.length : Int) x120_4 x140_46 = some true) ∧ Aside0 (kq ≤ k4) ∧ Aside0 (Kd.R kFld 59 wc w.heap.size (fun _ => True) (.slice Ao21 t150.length co21) t150) ∧ Aside0 (Kd.R (Kd.int .u64) 22 wc w.heap.size (fun k_ => some k_ ≠ (v165 : Value).ownBlock ∧ some k_ ≠ ((.slice (some ad170) t167.length co43) : Value).ownBlock) v161 t159) ∧ Aside0 (Kd.R (Kd.int .u64) 22 wc w.heap.size (fun k_ => some k_ ≠ (v161 : Value).ownBlock ∧ some k_ ≠ ((.slice (some ad170) t167.length co43) : Value).ownBlock) v165 t163) ∧ Aside0 (Kd.R (Kd.int .u64) 22 wc w.heap.size (fun k_ => some k_ ≠ (v161 : Value).ownBlock ∧ some k_ ≠ (v165 : Value).ownBlock) (.slice (some ad170) t167.length co43) t167) ∧ Aside0 (wc.heap[gb148]? = some (.cells #[.int .i64 a0_0, .int .i64 a0_1, .int .u64 a0_2, (.slice A0_3 l0_3.length c0_3)] 25 (0, 0))) ∧ Aside0 (Below w.heap.size w wc))
                  case first =>
                   have H := HC47.out
                   clear HC47
                   by_cases c48 : x120_4 < (t159.length : Int)
                   ·rw [if_pos c48] at H
                    have c48b0 := decide_eq_true c48
                    clear c48
                    (first | rw [c48b0] | (simp only [i64_w, i32_w]; rw [c48b0]) | skip)
                    by_cases c49 : (rd t159 x120_4) = (rd t167 x120_4)
                    ·rw [if_pos c49] at H
                     have c49b0 := beq_iff_eq.mpr c49
                     have c49b1 := bne_eq_false_iff_eq.mpr c49
                     clear c49
                     by_cases c50 : x120_4 < (t163.length : Int)
                     ·rw [if_pos c50] at H
                      have c50b0 := decide_eq_true c50
                      clear c50
                      replace H := Option.bind_eq_some_iff.mp H
                      obtain ⟨t173, A510, H⟩ := H
                      (try dsimp only at H)
                      have A51 := Aside0.mk A510
                      clear A510
                      have H' := Aside0.mk H
                      clear H
                      obtain ⟨Ao52, co52, eo52⟩ := Kd.R_slice HO_14.out
                      subst eo52
                      have p171 : 0 ≤ (x120_4 : Int) := of_decide_eq_true (by assumption)
                      have q171 : x120_4 < (t159.length : Int) := of_decide_eq_true (by assumption)
                      obtain ⟨ad171, e171, hx171_0⟩ := Kd.at_int (Kd.R_reads' HO_14.out).2.2 x120_4 p171 q171
                      cases e171
                      replace p171 := eq_true p171
                      replace q171 := eq_true q171
                      obtain ⟨Ao53, co53, eo53⟩ := Kd.R_slice HO_16.out
                      subst eo53
                      have p172 : 0 ≤ (x120_4 : Int) := of_decide_eq_true (by assumption)
                      have q172 : x120_4 < (t163.length : Int) := of_decide_eq_true (by assumption)
                      obtain ⟨ad172, e172, hx172_0⟩ := Kd.at_int (Kd.R_reads' HO_16.out).2.2 x120_4 p172 q172
                      cases e172
                      replace p172 := eq_true p172
                      replace q172 := eq_true q172
                      go_wp2_with (first | (go_at_call 18; (try rw [← hT_HO_7]); (with_reducible refine (field_Field_Lift.calls _ _ t150 (rd t167 x120_4) t173 _ ?side1 ?side2 A51.out).mono ?_); (case side1 => repeat (first | exact (Kd.R_reads' HO_7.out).2.2 | (with_reducible refine Kd.C_alloc ?_ _) | (with_reducible refine Kd.C_drewN ?_ _) | (with_reducible refine Kd.C_drew ?_))); (case side2 => exact (Kd.R_reads' HO_7.out).2.1); rintro e w' ⟨rfl, ⟨nd, rfl⟩⟩; (try first | exact ⟨rfl, _, World.drewN_drewN _ _ _⟩ | exact ⟨rfl, _, Eq.trans (World.drewN_drewN _ _ _) (congrArg (World.drewN _) (Nat.add_assoc _ _ _))⟩)))
                      repeat (go_quiet (first | (go_at_call 18; (try rw [← hT_HO_7]); (with_reducible refine (field_Field_Lift.calls _ _ t150 (rd t167 x120_4) t173 _ ?side1 ?side2 A51.out).mono ?_); (case side1 => repeat (first | exact (Kd.R_reads' HO_7.out).2.2 | (with_reducible refine Kd.C_alloc ?_ _) | (with_reducible refine Kd.C_drewN ?_ _) | (with_reducible refine Kd.C_drew ?_))); (case side2 => exact (Kd.R_reads' HO_7.out).2.1); rintro e w' ⟨rfl, ⟨nd, rfl⟩⟩; (try first | exact ⟨rfl, _, World.drewN_drewN _ _ _⟩ | exact ⟨rfl, _, Eq.trans (World.drewN_drewN _ _ _) (congrArg (World.drewN _) (Nat.add_assoc _ _ _))⟩))); try go_wp2_with (first | (go_at_call 18; (try rw [← hT_HO_7]); (with_reducible refine (field_Field_Lift.calls _ _ t150 (rd t167 x120_4) t173 _ ?side1 ?side2 A51.out).mono ?_); (case side1 => repeat (first | exact (Kd.R_reads' HO_7.out).2.2 | (with_reducible refine Kd.C_alloc ?_ _) | (with_reducible refine Kd.C_drewN ?_ _) | (with_reducible refine Kd.C_drew ?_))); (case side2 => exact (Kd.R_reads' HO_7.out).2.1); rintro e w' ⟨rfl, ⟨nd, rfl⟩⟩; (try first | exact ⟨rfl, _, World.drewN_drewN _ _ _⟩ | exact ⟨rfl, _, Eq.trans (World.drewN_drewN _ _ _) (congrArg (World.drewN _) (Nat.add_assoc _ _ _))⟩))))
                      go_meet
                      case rel => exact ⟨_, (((rd t163 x120_4) != t173)), (by first | rfl | (simp; done) | (simp [*]; done)), H', ⟨by have := HJ15.out; have := HJ26.out; have := HJ35.out; have := HK4.out; first | omega | exact Nat.le_refl _⟩, ⟨by (with_reducible repeat (first | apply Kd.R_alloc | apply Kd.R_drewN | apply Kd.R_drew)); exact HO_7.out⟩, ⟨by (with_reducible repeat (first | apply Kd.R_alloc | apply Kd.R_drewN | apply Kd.R_drew)); exact HO_14.out⟩, ⟨by (with_reducible repeat (first | apply Kd.R_alloc | apply Kd.R_drewN | apply Kd.R_drew)); exact HO_16.out⟩, ⟨by (with_reducible repeat (first | apply Kd.R_alloc | apply Kd.R_drewN | apply Kd.R_drew)); exact HO_118.out⟩, ⟨by (with_reducible repeat (first | refine blk_drewN ?_ _ | refine blk_drew ?_ | refine blk_alloc ?_ _)); exact BK148.out⟩, ⟨bel_⟩⟩
                     ·rw [if_neg c50] at H
                      exact absurd H (by simp)
                    ·rw [if_neg c49] at H
                     have c49b0 := beq_eq_false_iff_ne.mpr c49
                     have c49b1 := bne_iff_ne.mpr c49
                     have H' := Aside0.mk H
                     clear H
                     obtain ⟨Ao54, co54, eo54⟩ := Kd.R_slice HO_14.out
                     subst eo54
                     have p171 : 0 ≤ (x120_4 : Int) := of_decide_eq_true (by assumption)
                     have q171 : x120_4 < (t159.length : Int) := of_decide_eq_true (by assumption)
                     obtain ⟨ad171, e171, hx171_0⟩ := Kd.at_int (Kd.R_reads' HO_14.out).2.2 x120_4 p171 q171
                     cases e171
                     replace p171 := eq_true p171
                     replace q171 := eq_true q171
                     go_wp2
                     repeat (go_quiet (fail); try go_wp2)
                     go_meet
                     case rel => exact ⟨_, (true), (by first | rfl | (simp; done) | (simp [*]; done)), H', ⟨by have := HJ15.out; have := HJ26.out; have := HJ35.out; have := HK4.out; first | omega | exact Nat.le_refl _⟩, ⟨by (with_reducible repeat (first | apply Kd.R_alloc | apply Kd.R_drewN | apply Kd.R_drew)); exact HO_7.out⟩, ⟨by (with_reducible repeat (first | apply Kd.R_alloc | apply Kd.R_drewN | apply Kd.R_drew)); exact HO_14.out⟩, ⟨by (with_reducible repeat (first | apply Kd.R_alloc | apply Kd.R_drewN | apply Kd.R_drew)); exact HO_16.out⟩, ⟨by (with_reducible repeat (first | apply Kd.R_alloc | apply Kd.R_drewN | apply Kd.R_drew)); exact HO_118.out⟩, ⟨by (with_reducible repeat (first | refine blk_drewN ?_ _ | refine blk_drew ?_ | refine blk_alloc ?_ _)); exact BK148.out⟩, ⟨bel_⟩⟩
                   ·rw [if_neg c48] at H
                    exact absurd H (by simp)
                  case rest =>
                   clear HC47
                   try clear c1
                   try clear p1
                   try clear q1
                   try clear hx1
                   try clear c2
                   try clear p2
                   try clear c3
                   try clear c4
                   try clear c5
                   try clear c8
                   try clear c8b0
                   try clear c8b1
                   try clear c9
                   try clear c9b0
                   try clear c9b1
                   try clear c9b2
                   try clear c10
                   try clear c10b0
                   try clear c10b1
                   try clear p17
                   try clear q17
                   try clear hx17
                   try clear c22
                   try clear c22b0
                   try clear c23
                   try clear c30
                   try clear c30b0
                   try clear c30b1
                   try clear c31
                   try clear c31b0
                   try clear c31b1
                   try clear c32
                   try clear c32b0
                   try clear c32b1
                   try clear c33
                   try clear c34
                   try clear c34b0
                   try clear c34b1
                   try clear c38
                   try clear c38b0
                   try clear c38b1
                   try clear c42
                   try clear c44
                   try clear c44b0
                   try clear c45
                   try clear c45b0
                   try clear c46
                   try clear c46b0
                   try clear c48
                   try clear c48b0
                   try clear c49
                   try clear c49b0
                   try clear c49b1
                   try clear c50
                   try clear c50b0
                   try clear hcz13_0
                   try clear hcz13_1
                   try clear hcz13_2
                   try clear hcz13_3
                   try clear hcz19_0
                   try clear hcz19_1
                   try clear hcz19_2
                   try clear hcz19_3
                   try clear hfz13_0
                   try clear hfz13_1
                   try clear hfz13_2
                   try clear hfz13_3
                   try clear hfz19_0
                   try clear hfz19_1
                   try clear hfz19_2
                   try clear hfz19_3
                   try clear hx170_0
                   try clear hx171_0
                   try clear hx172_0
                   try clear p170
                   try clear p171
                   try clear p172
                   try clear p2
                   try clear q170
                   try clear q171
                   try clear q172
                   obtain ⟨kq, x140_46, rfl, HA, HJ46, HO_7, HO_14, HO_16, HO_118, BK148, HB⟩ := hcut
                   cases kq with
                   | zero => exact absurd HA.out (by simp [epicyclelaw10_TwiddleTables.j4])
                   | succ kj46 =>
                    have H := HA.out
                    clear HA
                    simp only [epicyclelaw10_TwiddleTables.j4] at H
                    by_cases c55 : x140_46 = true
                    ·subst c55
                     have H1 := H; rw [if_pos rfl] at H1
                     clear H
                     have H := H1
                     clear H1
                     exact absurd H (by simp)
                    ·replace c55 := Bool.eq_false_iff.mpr c55
                     subst c55
                     have H1 := H; rw [if_neg (show ¬ (false = true) by decide)] at H1
                     clear H
                     have H := H1
                     clear H1
                     have H' := Aside0.mk H
                     clear H
                     go_wp2
                     go_roundg kj46
                     case measure => have := HJ15.out; have := HJ26.out; have := HJ35.out; have := HK4.out; have := HJ46.out; omega
                     case rel => exact ⟨(wrap64 (x120_4 + 1)), (by first | rfl | (simp; done) | (simp [*]; done)), H', ⟨by have := HJ15.out; have := HJ26.out; have := HJ35.out; have := HK4.out; have := HJ46.out; omega⟩, ⟨by (with_reducible repeat (first | apply Kd.R_alloc | apply Kd.R_drewN | apply Kd.R_drew)); exact HO_7.out⟩, ⟨by (with_reducible repeat (first | apply Kd.R_alloc | apply Kd.R_drewN | apply Kd.R_drew)); exact HO_14.out⟩, ⟨by (with_reducible repeat (first | apply Kd.R_alloc | apply Kd.R_drewN | apply Kd.R_drew)); exact HO_16.out⟩, ⟨by (with_reducible repeat (first | apply Kd.R_alloc | apply Kd.R_drewN | apply Kd.R_drew)); exact HO_118.out⟩, ⟨by (with_reducible repeat (first | refine blk_drewN ?_ _ | refine blk_drew ?_ | refine blk_alloc ?_ _)); exact BK148.out⟩, ⟨bel_⟩⟩
                 ·rw [if_neg c46] at H
                  exact absurd H (by simp)
                ·rw [if_neg c45] at H
                 exact absurd H (by simp)
               ·rw [if_neg c44] at H
                have c44b0 := decide_eq_false c44
                clear c44
                clear H
                go_wp2
                go_ret
                exact ⟨by first | rfl | (simp [errW_none, errW_some] <;> rfl) | (simp [*, errW_none, errW_some] <;> rfl), bel_⟩
         ·rw [if_neg c34] at H
          have c34b0 := beq_eq_false_iff_ne.mpr c34
          have c34b1 := bne_iff_ne.mpr c34
          by_cases c56 : (t159.length : Int) = 0
          ·rw [if_pos c56] at H
           have c56b0 := beq_iff_eq.mpr c56
           have c56b1 := bne_eq_false_iff_eq.mpr c56
           clear c56
           have hR_ := Option.some.inj H
           obtain ⟨Ao57, co57, eo57⟩ := Kd.R_slice HO_14.out
           subst eo57
           obtain ⟨Ao58, co58, eo58⟩ := Kd.R_slice HO_16.out
           subst eo58
           go_wp2
           go_ret
           exact ⟨by first | rfl | (simp [errW_none, errW_some] <;> rfl) | (simp [*, errW_none, errW_some] <;> rfl), bel_⟩
          ·rw [if_neg c56] at H
           have c56b0 := beq_eq_false_iff_ne.mpr c56
           have c56b1 := bne_iff_ne.mpr c56
           have c56b2 : ¬ (t159 = []) := fun h_ => c56 (by rw [h_]; rfl)
           exact absurd H (by simp)
 ·replace c5 := Bool.eq_false_iff.mpr c5
  subst c5
  have H1 := H; rw [if_neg (show ¬ (false = true) by decide)] at H1
  clear H
  have H := H1
  clear H1
  exact absurd H (by simp)
end Go.Proofs.YthnpjjpdlihepaaGreat.XL
end
