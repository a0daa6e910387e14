/- Parts of this claim's texts, packed by wip/tools/prune.py: what the proof does not reach is left out. -/
import Derived.Test.YthnpjjpdlihepaaPC13
section
namespace Go.Proofs.Ythnpjjpdlihepaa.XW
open Go.RowKit Go.Proofs.Ythnpjjpdlihepaa.Given Go.Proofs.Ythnpjjpdlihepaa.Row05 Go.Proofs.Ythnpjjpdlihepaa.XS Go.Proofs.Ythnpjjpdlihepaa.XT Go.Proofs.Ythnpjjpdlihepaa.XR Go.Proofs.Ythnpjjpdlihepaa.F06 Go.Proofs.Ythnpjjpdlihepaa.XK Go.Proofs.YthnpjjpdlihepaaW.PrintWords Go.Proofs.YthnpjjpdlihepaaW.PrintLast Go.Proofs.YthnpjjpdlihepaaW.PrintMore
attribute [local go_sem] max2_int min2_int max_two min_two max_three min_three max_four min_four   -- for this text's walks alone
set_option linter.unusedVariables false
set_option linter.unusedSimpArgs false
mutual
noncomputable def epicyclelaw10_TwiddleCertified.j0 : Nat → Int → Int → Int → List (Fld) → Int → Bool → Option (Bool)
 | 0, _, _, _, _, _, _ => none
 | k + 1, x1, x2, x3, x9, x10, x41 => if x41 = true then (some true) else ((twiddle_Table.f k x9 x1 false).bind fun bt186 => ((twiddle_Table.f k x9 x1 true).bind fun bt190 => (if bt186.2 = 0 then (if bt190.2 = 0 then ((twiddle_Verify.f k x9 bt186.1).bind fun t194 => (if t194 = true then ((twiddle_Verify.f k x9 bt190.1).bind fun t195 => (epicyclelaw10_TwiddleCertified.j1 k x1 x2 x3 x9 x10 bt186.1 bt190.1 (!t195))) else (epicyclelaw10_TwiddleCertified.j1 k x1 x2 x3 x9 x10 bt186.1 bt190.1 true))) else (epicyclelaw10_TwiddleCertified.j1 k x1 x2 x3 x9 x10 bt186.1 bt190.1 true)) else (epicyclelaw10_TwiddleCertified.j1 k x1 x2 x3 x9 x10 bt186.1 bt190.1 true))))
noncomputable def epicyclelaw10_TwiddleCertified.j1 : Nat → Int → Int → Int → List (Fld) → Int → List Int → List Int → Bool → Option (Bool)
 | 0, _, _, _, _, _, _, _, _ => none
 | k + 1, x1, x2, x3, x9, x10, x12, x14, x71 => if x71 = true then (some false) else (epicyclelaw10_TwiddleCertified.l0 k x1 x2 x3 x9 x10 x12 x14 (x12.length : Int) 0)
noncomputable def epicyclelaw10_TwiddleCertified.l0 : Nat → Int → Int → Int → List (Fld) → Int → List Int → List Int → Int → Int → Option (Bool)
 | 0, _, _, _, _, _, _, _, _, _ => none
 | k + 1, x1, x2, x3, x9, x10, x12, x14, x73, x74 => if x74 < x73 then (if 0 ≤ x74 then (if x74 < (x12.length : Int) then (if x74 < (x14.length : Int) then ((field_Field_Mul.f x9 (rd x12 x74) (rd x14 x74)).bind fun t198 => (if t198 = 1 then (if x1 = 0 then (none) else (if 0 ≤ (Int.tmod (wrap64 (x1 - x74)) x1) then (if (Int.tmod (wrap64 (x1 - x74)) x1) < (x12.length : Int) then (epicyclelaw10_TwiddleCertified.j3 k x1 x2 x3 x9 x10 x12 x14 x73 x74 ((rd x14 x74) != (rd x12 (Int.tmod (wrap64 (x1 - x74)) x1)))) else (none)) else (none))) else (epicyclelaw10_TwiddleCertified.j3 k x1 x2 x3 x9 x10 x12 x14 x73 x74 true))) else (none)) else (none)) else (none)) else (if (IntKind.u64.wrap (x1)) = 0 then (none) else (if 0 ≤ (wrap64 (Int.tmod (IntKind.u64.wrap (x2)) (IntKind.u64.wrap (x1)))) then (if (wrap64 (Int.tmod (IntKind.u64.wrap (x2)) (IntKind.u64.wrap (x1)))) < (x12.length : Int) then (if (rd x12 (wrap64 (Int.tmod (IntKind.u64.wrap (x2)) (IntKind.u64.wrap (x1))))) = x3 then (some true) else ((some (x12.set ((wrap64 (Int.tmod (IntKind.u64.wrap (x2)) (IntKind.u64.wrap (x1)))) : Int).toNat x3 : List Int)).bind fun y202 => ((twiddle_Verify.f k x9 y202).bind fun t203 => ((epicycleref10_Right.f k x10 y202).bind fun t204 => (some (t203 == t204)))))) else (none)) else (none)))
noncomputable def epicyclelaw10_TwiddleCertified.j3 : Nat → Int → Int → Int → List (Fld) → Int → List Int → List Int → Int → Int → Bool → Option (Bool)
 | 0, _, _, _, _, _, _, _, _, _, _ => none
 | k + 1, x1, x2, x3, x9, x10, x12, x14, x73, x74, x102 => if x102 = true then (some false) else (epicyclelaw10_TwiddleCertified.l0 k x1 x2 x3 x9 x10 x12 x14 x73 (wrap64 (x74 + 1)))
end
noncomputable def epicyclelaw10_TwiddleCertified.f (k : Nat) (a0_0 : Int) (a0_1 : Int) (a0_2 : Int) (l0_3 : List (S52)) (a1 : Int) (a2 : Int) (a3 : Int) : Option (Bool) := (epicyclelaw10_alive.f k).bind fun t179 => (if t179 = true then ((epicyclelaw10_made.f k a0_0 a0_1 a0_2 l0_3).bind fun bt180 => (if bt180.2.1 = 0 then (if (bt180.1.length : Int) = 0 then (some true) else (some false)) else (if a1 < 1 then (epicyclelaw10_TwiddleCertified.j0 k a1 a2 a3 bt180.1 bt180.2.1 true) else (if a1 > 300 then (epicyclelaw10_TwiddleCertified.j0 k a1 a2 a3 bt180.1 bt180.2.1 true) else ((field_Field_Divides.f bt180.1 a1).bind fun t185 => (epicyclelaw10_TwiddleCertified.j0 k a1 a2 a3 bt180.1 bt180.2.1 (!t185))))))) else (some false))
set_option maxHeartbeats 8000000 in
set_option maxRecDepth 100000 in
theorem epicyclelaw10_TwiddleCertified.calls (k : Nat) (a0_0 : Int) (a0_1 : Int) (a0_2 : Int) (A0_3 : Option Addr) (c0_3 : Nat) (l0_3 : List (S52)) (a1 : Int) (a2 : Int) (a3 : Int) (w : World) (hr0_3 : Kd.C k52 w A0_3 l0_3.length l0_3) (hc0_3 : l0_3.length ≤ c0_3) (h : epicyclelaw10_TwiddleCertified.f k a0_0 a0_1 a0_2 l0_3 a1 a2 a3 = some true) :
  Calls Try.prog 9 #[.agg #[.int .i64 a0_0, .int .i64 a0_1, .int .u64 a0_2, .slice A0_3 l0_3.length c0_3], .int .i64 a1, .int .i64 a2, .int .u64 a3] w fun e w' => e = .returned (.bool true) ∧ Below w.heap.size w w' := by
 have hu25 := Try.underlying25
 have HR0_3 := Aside0.mk hr0_3
 have HC0_3 := Aside0.mk hc0_3
 clear hr0_3 hc0_3
 have HB := Aside0.mk (Below.refl w.heap.size w)
 have H := h; unfold epicyclelaw10_TwiddleCertified.f at H
 clear h
 replace H := Option.bind_eq_some_iff.mp H
 obtain ⟨t179, A50, H⟩ := H
 (try dsimp only at H)
 have A5 := Aside0.mk A50
 clear A50
 by_cases c6 : t179 = true
 ·subst c6
  have H1 := H; rw [if_pos rfl] at H1
  clear H
  have H := H1
  clear H1
  replace H := Option.bind_eq_some_iff.mp H
  obtain ⟨⟨t180, t183, t184⟩, A70, H⟩ := H
  (try dsimp only at H)
  have A7 := Aside0.mk A70
  clear A70
  by_cases c8 : t183 = 0
  ·rw [if_pos c8] at H
   have c8b0 := beq_iff_eq.mpr c8
   have c8b1 := bne_eq_false_iff_eq.mpr c8
   clear c8
   by_cases c9 : (t180.length : Int) = 0
   ·rw [if_pos c9] at H
    have c9b0 := beq_iff_eq.mpr c9
    have c9b1 := bne_eq_false_iff_eq.mpr c9
    have hTl_t180 := Aside0.mk (show t180.length = 0 by omega)
    clear c9
    clear H
    go_enter Try.func9, Try.ntmps9
    go_wp2_with (first | ((with_reducible refine gate_dst (N := 4) rfl ?_); refine box_event ?hg (N := 4) ?hd (cs := #[.int .i64 a0_0, .int .i64 a0_1, .int .u64 a0_2, .slice A0_3 l0_3.length c0_3]) (t := 25) ?hr ?_; (case hd => rfl); (case hg => rfl); (case hr => first | (go_simp; done) | (go_simp; rfl)); intro gb178 hg w10 hbox hb; have n0_ := Aside0.mk (below_step bel_ hb); have n1_ := Aside0.mk (hbox); have n2_ := Aside0.mk ((by rw [hg]; exact (below_size bel_) : w.heap.size ≤ gb178)); have n3_ := Aside0.mk ((by rw [hg]; exact (below_size bel_) : w.heap.size ≤ gb178)); clear HB; have HB := n0_; have BK178 := n1_; have GW178 := n2_; have GE178 := n3_; clear n0_ n1_ n2_ n3_; clear hb hbox hg) | (go_at_call 22; (with_reducible refine (epicyclelaw10_alive.calls k  true _ A5.out).mono ?_); rintro e w11 ⟨rfl, hb⟩; have n0_ := Aside0.mk (blk_below (g := gb178) (o := .cells #[.int .i64 a0_0, .int .i64 a0_1, .int .u64 a0_2, .slice A0_3 l0_3.length c0_3] 25 (0, 0)) (by (with_reducible repeat (first | refine blk_drewN ?_ _ | refine blk_drew ?_ | refine blk_alloc ?_ _)); exact BK178.out) hb); have n1_ := Aside0.mk (below_step bel_ hb); clear BK178; clear HB; have BK178 := n0_; have HB := n1_; clear n0_ n1_; (try clear hb); (try clear hb2); (try clear hk); (try clear hi); have hcz12_0 : w11.cell? ⟨gb178, 0, none⟩ = some (.int .i64 a0_0) := (blk_cell BK178.out 0).trans rfl; have hcz12_1 : w11.cell? ⟨gb178, 1, none⟩ = some (.int .i64 a0_1) := (blk_cell BK178.out 1).trans rfl; have hcz12_2 : w11.cell? ⟨gb178, 2, none⟩ = some (.int .u64 a0_2) := (blk_cell BK178.out 2).trans rfl; have hcz12_3 : w11.cell? ⟨gb178, 3, none⟩ = some (.slice A0_3 l0_3.length c0_3) := (blk_cell BK178.out 3).trans rfl; have hfz12_0 := blk_frozen BK178.out 0; have hfz12_1 := blk_frozen BK178.out 1; have hfz12_2 := blk_frozen BK178.out 2; have hfz12_3 := blk_frozen BK178.out 3) | (go_at_call 23; (with_reducible refine (epicyclelaw10_made.calls k a0_0 a0_1 a0_2 _ _ l0_3 t180 t183 t184 _ ?side1 ?side2 A7.out).mono ?_); (case side1 => repeat (first | exact (Kd.C_below HR0_3.out HB.out) | (with_reducible refine Kd.C_alloc ?_ _) | (with_reducible refine Kd.C_drewN ?_ _) | (with_reducible refine Kd.C_drew ?_))); (case side2 => exact HC0_3.out); rintro e w13 ⟨v181, rfl, ho0, hb⟩; have n0_ := Aside0.mk (Kd.R_lower ho0 (below_size bel_)); have n1_ := Aside0.mk (blk_below (g := gb178) (o := .cells #[.int .i64 a0_0, .int .i64 a0_1, .int .u64 a0_2, .slice A0_3 l0_3.length c0_3] 25 (0, 0)) (by (with_reducible repeat (first | refine blk_drewN ?_ _ | refine blk_drew ?_ | refine blk_alloc ?_ _)); exact BK178.out) hb); have n2_ := Aside0.mk (below_step bel_ hb); clear BK178; clear HB; have HO182 := n0_; have BK178 := n1_; have HB := n2_; clear n0_ n1_ n2_; (try clear hb); (try clear hb2); (try clear hk); (try clear hi); (try clear ho0); have hT_HO182 := pf_none_own HO182.out hTl_t180.out))
    go_ret
    exact ⟨by first | rfl | (simp [errW_none, errW_some] <;> rfl) | (simp [*, errW_none, errW_some] <;> rfl), bel_⟩
   ·rw [if_neg c9] at H
    have c9b0 := beq_eq_false_iff_ne.mpr c9
    have c9b1 := bne_iff_ne.mpr c9
    have c9b2 : ¬ (t180 = []) := fun h_ => c9 (by rw [h_]; rfl)
    have hTl_t180 := Aside0.mk (show ¬ (t180.length = 0) by omega)
    exact absurd H (by simp)
  ·rw [if_neg c8] at H
   have c8b0 := beq_eq_false_iff_ne.mpr c8
   have c8b1 := bne_iff_ne.mpr c8
   have HC14 := Aside0.mk H
   clear H
   go_enter Try.func9, Try.ntmps9
   go_upto_region 6 with (first | ((with_reducible refine gate_dst (N := 4) rfl ?_); refine box_event ?hg (N := 4) ?hd (cs := #[.int .i64 a0_0, .int .i64 a0_1, .int .u64 a0_2, .slice A0_3 l0_3.length c0_3]) (t := 25) ?hr ?_; (case hd => rfl); (case hg => rfl); (case hr => first | (go_simp; done) | (go_simp; rfl)); intro gb178 hg w15 hbox hb; have n0_ := Aside0.mk (below_step bel_ hb); have n1_ := Aside0.mk (hbox); have n2_ := Aside0.mk ((by rw [hg]; exact (below_size bel_) : w.heap.size ≤ gb178)); have n3_ := Aside0.mk ((by rw [hg]; exact (below_size bel_) : w.heap.size ≤ gb178)); clear HB; have HB := n0_; have BK178 := n1_; have GW178 := n2_; have GE178 := n3_; clear n0_ n1_ n2_ n3_; clear hb hbox hg) | (go_at_call 22; (with_reducible refine (epicyclelaw10_alive.calls k  true _ A5.out).mono ?_); rintro e w16 ⟨rfl, hb⟩; have n0_ := Aside0.mk (blk_below (g := gb178) (o := .cells #[.int .i64 a0_0, .int .i64 a0_1, .int .u64 a0_2, .slice A0_3 l0_3.length c0_3] 25 (0, 0)) (by (with_reducible repeat (first | refine blk_drewN ?_ _ | refine blk_drew ?_ | refine blk_alloc ?_ _)); exact BK178.out) hb); have n1_ := Aside0.mk (below_step bel_ hb); clear BK178; clear HB; have BK178 := n0_; have HB := n1_; clear n0_ n1_; (try clear hb); (try clear hb2); (try clear hk); (try clear hi); have hcz17_0 : w16.cell? ⟨gb178, 0, none⟩ = some (.int .i64 a0_0) := (blk_cell BK178.out 0).trans rfl; have hcz17_1 : w16.cell? ⟨gb178, 1, none⟩ = some (.int .i64 a0_1) := (blk_cell BK178.out 1).trans rfl; have hcz17_2 : w16.cell? ⟨gb178, 2, none⟩ = some (.int .u64 a0_2) := (blk_cell BK178.out 2).trans rfl; have hcz17_3 : w16.cell? ⟨gb178, 3, none⟩ = some (.slice A0_3 l0_3.length c0_3) := (blk_cell BK178.out 3).trans rfl; have hfz17_0 := blk_frozen BK178.out 0; have hfz17_1 := blk_frozen BK178.out 1; have hfz17_2 := blk_frozen BK178.out 2; have hfz17_3 := blk_frozen BK178.out 3) | (go_at_call 23; (with_reducible refine (epicyclelaw10_made.calls k a0_0 a0_1 a0_2 _ _ l0_3 t180 t183 t184 _ ?side1 ?side2 A7.out).mono ?_); (case side1 => repeat (first | exact (Kd.C_below HR0_3.out HB.out) | (with_reducible refine Kd.C_alloc ?_ _) | (with_reducible refine Kd.C_drewN ?_ _) | (with_reducible refine Kd.C_drew ?_))); (case side2 => exact HC0_3.out); rintro e w18 ⟨v181, rfl, ho0, hb⟩; have n0_ := Aside0.mk (Kd.R_lower ho0 (below_size bel_)); have n1_ := Aside0.mk (blk_below (g := gb178) (o := .cells #[.int .i64 a0_0, .int .i64 a0_1, .int .u64 a0_2, .slice A0_3 l0_3.length c0_3] 25 (0, 0)) (by (with_reducible repeat (first | refine blk_drewN ?_ _ | refine blk_drew ?_ | refine blk_alloc ?_ _)); exact BK178.out) hb); have n2_ := Aside0.mk (below_step bel_ hb); clear BK178; clear HB; have HO182 := n0_; have BK178 := n1_; have HB := n2_; clear n0_ n1_ n2_; (try clear hb); (try clear hb2); (try clear hk); (try clear hi); (try clear ho0)))
   (try simp only [Act.put, List.setIfInBounds_toArray, List.set_cons_zero, List.set_cons_succ])
   go_cut [41] (fun v41 wc => ∃ (kq : Nat) (x41_13 : Bool), v41 = .bool x41_13 ∧ Aside0 (epicyclelaw10_TwiddleCertified.j0 kq a1 a2 a3 t180 t183 x41_13 = some true) ∧ Aside0 (kq ≤ k) ∧ Aside0 (Kd.R kFld 70 wc w.heap.size (fun _ => True) v181 t180) ∧ Aside0 (wc.heap[gb178]? = some (.cells #[.int .i64 a0_0, .int .i64 a0_1, .int .u64 a0_2, (.slice A0_3 l0_3.length c0_3)] 25 (0, 0))) ∧ Aside0 (Below w.heap.size w wc))
   case first =>
    have H := HC14.out
    clear HC14
    by_cases c19 : a1 < 1
    ·rw [if_pos c19] at H
     have c19b0 := decide_eq_true c19
     clear c19
     (first | rw [c19b0] | (simp only [i64_w, i32_w]; rw [c19b0]) | skip)
     have H' := Aside0.mk H
     clear H
     go_wp2
     go_meet
     case rel => exact ⟨_, (true), (by first | rfl | (simp; done) | (simp [*]; done)), H', ⟨by first | omega | exact Nat.le_refl _⟩, ⟨by (with_reducible repeat (first | apply Kd.R_alloc | apply Kd.R_drewN | apply Kd.R_drew)); exact HO182.out⟩, ⟨by (with_reducible repeat (first | refine blk_drewN ?_ _ | refine blk_drew ?_ | refine blk_alloc ?_ _)); exact BK178.out⟩, ⟨bel_⟩⟩
    ·rw [if_neg c19] at H
     have c19b0 := decide_eq_false c19
     clear c19
     (first | rw [c19b0] | (simp only [i64_w, i32_w]; rw [c19b0]) | skip)
     by_cases c20 : a1 > 300
     ·rw [if_pos c20] at H
      have c20b0 := decide_eq_true c20
      clear c20
      have H' := Aside0.mk H
      clear H
      go_wp2
      go_meet
      case rel => exact ⟨_, (true), (by first | rfl | (simp; done) | (simp [*]; done)), H', ⟨by first | omega | exact Nat.le_refl _⟩, ⟨by (with_reducible repeat (first | apply Kd.R_alloc | apply Kd.R_drewN | apply Kd.R_drew)); exact HO182.out⟩, ⟨by (with_reducible repeat (first | refine blk_drewN ?_ _ | refine blk_drew ?_ | refine blk_alloc ?_ _)); exact BK178.out⟩, ⟨bel_⟩⟩
     ·rw [if_neg c20] at H
      have c20b0 := decide_eq_false c20
      clear c20
      replace H := Option.bind_eq_some_iff.mp H
      obtain ⟨t185, A210, H⟩ := H
      (try dsimp only at H)
      have A21 := Aside0.mk A210
      clear A210
      have H' := Aside0.mk H
      clear H
      obtain ⟨Ao22, co22, eo22⟩ := Kd.R_slice HO182.out
      subst eo22
      go_wp2_with (first | (go_at_call 15; (try rw [← hT_HO182]); (with_reducible refine (field_Field_Divides.calls _ _ t180 a1 t185 _ ?side1 ?side2 A21.out).mono ?_); (case side1 => repeat (first | exact (Kd.R_reads' HO182.out).2.2 | (with_reducible refine Kd.C_alloc ?_ _) | (with_reducible refine Kd.C_drewN ?_ _) | (with_reducible refine Kd.C_drew ?_))); (case side2 => exact (Kd.R_reads' HO182.out).2.1); rintro e w' ⟨rfl, ⟨nd, rfl⟩⟩; (try first | exact ⟨rfl, _, World.drewN_drewN _ _ _⟩ | exact ⟨rfl, _, Eq.trans (World.drewN_drewN _ _ _) (congrArg (World.drewN _) (Nat.add_assoc _ _ _))⟩)))
      go_meet
      case rel => exact ⟨_, (!t185), (by first | rfl | (simp; done) | (simp [*]; done)), H', ⟨by first | omega | exact Nat.le_refl _⟩, ⟨by (with_reducible repeat (first | apply Kd.R_alloc | apply Kd.R_drewN | apply Kd.R_drew)); exact HO182.out⟩, ⟨by (with_reducible repeat (first | refine blk_drewN ?_ _ | refine blk_drew ?_ | refine blk_alloc ?_ _)); exact BK178.out⟩, ⟨bel_⟩⟩
   case rest =>
    clear HC14
    try clear c1
    try clear c2
    try clear p2
    try clear c6
    try clear c8
    try clear c8b0
    try clear c8b1
    try clear c9
    try clear c9b0
    try clear c9b1
    try clear c9b2
    try clear c19
    try clear c19b0
    try clear c20
    try clear c20b0
    try clear hcz12_0
    try clear hcz12_1
    try clear hcz12_2
    try clear hcz12_3
    try clear hcz17_0
    try clear hcz17_1
    try clear hcz17_2
    try clear hcz17_3
    try clear hfz12_0
    try clear hfz12_1
    try clear hfz12_2
    try clear hfz12_3
    try clear hfz17_0
    try clear hfz17_1
    try clear hfz17_2
    try clear hfz17_3
    obtain ⟨kq, x41_13, rfl, HA, HJ13, HO_9, BK178, HB⟩ := hcut
    cases kq with
    | zero => exact absurd HA.out (by simp [epicyclelaw10_TwiddleCertified.j0])
    | succ kj13 =>
     have H := HA.out
     clear HA
     simp only [epicyclelaw10_TwiddleCertified.j0] at H
     by_cases c23 : x41_13 = true
     ·subst c23
      have H1 := H; rw [if_pos rfl] at H1
      clear H
      have H := H1
      clear H1
      clear H
      go_wp2
      go_ret
      exact ⟨by first | rfl | (simp [errW_none, errW_some] <;> rfl) | (simp [*, errW_none, errW_some] <;> rfl), bel_⟩
     ·replace c23 := Bool.eq_false_iff.mpr c23
      subst c23
      have H1 := H; rw [if_neg (show ¬ (false = true) by decide)] at H1
      clear H
      have H := H1
      clear H1
      replace H := Option.bind_eq_some_iff.mp H
      obtain ⟨⟨t186, t187⟩, A240, H⟩ := H
      (try dsimp only at H)
      have A24 := Aside0.mk A240
      clear A240
      replace H := Option.bind_eq_some_iff.mp H
      obtain ⟨⟨t190, t191⟩, A250, H⟩ := H
      (try dsimp only at H)
      have A25 := Aside0.mk A250
      clear A250
      have HC26 := Aside0.mk H
      clear H
      obtain ⟨Ao27, co27, eo27⟩ := Kd.R_slice HO_9.out
      subst eo27
      go_upto_region 10 with (first | (go_at_call 26; (try rw [← hT_HO_9]); (with_reducible refine (twiddle_Table.calls kj13 _ _ t180 a1 false t186 t187 _ ?side1 ?side2 A24.out).mono ?_); (case side1 => repeat (first | exact (Kd.R_reads' HO_9.out).2.2 | (with_reducible refine Kd.C_alloc ?_ _) | (with_reducible refine Kd.C_drewN ?_ _) | (with_reducible refine Kd.C_drew ?_))); (case side2 => exact (Kd.R_reads' HO_9.out).2.1); rintro e w28 ⟨v188, rfl, ho0, hb⟩; have n0_ := Aside0.mk (Kd.R_below (by (with_reducible repeat (first | apply Kd.R_alloc | apply Kd.R_drewN | apply Kd.R_drew)); exact HO_9.out) hb); have n1_ := Aside0.mk (Kd.R_lower ho0 (below_size bel_)); have n2_ := Aside0.mk (blk_below (g := gb178) (o := .cells #[.int .i64 a0_0, .int .i64 a0_1, .int .u64 a0_2, .slice A0_3 l0_3.length c0_3] 25 (0, 0)) (by (with_reducible repeat (first | refine blk_drewN ?_ _ | refine blk_drew ?_ | refine blk_alloc ?_ _)); exact BK178.out) hb); have n3_ := Aside0.mk (below_step bel_ hb); clear HO_9; clear BK178; clear HB; have HO_9 := n0_; have HO189 := n1_; have BK178 := n2_; have HB := n3_; clear n0_ n1_ n2_ n3_; (try clear hb); (try clear hb2); (try clear hk); (try clear hi); (try clear ho0)) | (go_at_call 26; (try rw [← hT_HO_9]); (with_reducible refine (twiddle_Table.calls kj13 _ _ t180 a1 true t190 t191 _ ?side1 ?side2 A25.out).mono ?_); (case side1 => repeat (first | exact (Kd.R_reads' HO_9.out).2.2 | (with_reducible refine Kd.C_alloc ?_ _) | (with_reducible refine Kd.C_drewN ?_ _) | (with_reducible refine Kd.C_drew ?_))); (case side2 => exact (Kd.R_reads' HO_9.out).2.1); rintro e w29 ⟨v192, rfl, ho0, hb⟩; have n0_ := Aside0.mk (Kd.R_below (by (with_reducible repeat (first | apply Kd.R_alloc | apply Kd.R_drewN | apply Kd.R_drew)); exact HO_9.out) hb); have n1_ := Aside0.mk (Kd.R_elder' (by (with_reducible repeat (first | apply Kd.R_alloc | apply Kd.R_drewN | apply Kd.R_drew)); exact HO189.out) (Kd.R_base ho0) hb); have n2_ := Aside0.mk (Kd.R_lower (Kd.R_new' ho0 (Kd.R_lt (by (with_reducible repeat (first | apply Kd.R_alloc | apply Kd.R_drewN | apply Kd.R_drew)); exact HO189.out))) (below_size bel_)); have n3_ := Aside0.mk (blk_below (g := gb178) (o := .cells #[.int .i64 a0_0, .int .i64 a0_1, .int .u64 a0_2, .slice A0_3 l0_3.length c0_3] 25 (0, 0)) (by (with_reducible repeat (first | refine blk_drewN ?_ _ | refine blk_drew ?_ | refine blk_alloc ?_ _)); exact BK178.out) hb); have n4_ := Aside0.mk (below_step bel_ hb); clear HO_9; clear HO189; clear BK178; clear HB; have HO_9 := n0_; have HO189 := n1_; have HO193 := n2_; have BK178 := n3_; have HB := n4_; clear n0_ n1_ n2_ n3_ n4_; (try clear hb); (try clear hb2); (try clear hk); (try clear hi); (try clear ho0)))
      (try simp only [Act.put, List.setIfInBounds_toArray, List.set_cons_zero, List.set_cons_succ])
      go_cut [71] (fun v71 wc => ∃ (kq : Nat) (x71_25 : Bool), v71 = .bool x71_25 ∧ Aside0 (epicyclelaw10_TwiddleCertified.j1 kq a1 a2 a3 t180 t183 t186 t190 x71_25 = some true) ∧ Aside0 (kq ≤ kj13) ∧ Aside0 (Kd.R kFld 70 wc w.heap.size (fun _ => True) (.slice Ao27 t180.length co27) t180) ∧ Aside0 (Kd.R (Kd.int .u64) 22 wc w.heap.size (fun k_ => some k_ ≠ (v192 : Value).ownBlock) v188 t186) ∧ Aside0 (Kd.R (Kd.int .u64) 22 wc w.heap.size (fun k_ => some k_ ≠ (v188 : Value).ownBlock) v192 t190) ∧ Aside0 (wc.heap[gb178]? = some (.cells #[.int .i64 a0_0, .int .i64 a0_1, .int .u64 a0_2, (.slice A0_3 l0_3.length c0_3)] 25 (0, 0))) ∧ Aside0 (Below w.heap.size w wc))
      case first =>
       have H := HC26.out
       clear HC26
       by_cases c30 : t187 = 0
       ·rw [if_pos c30] at H
        have c30b0 := beq_iff_eq.mpr c30
        have c30b1 := bne_eq_false_iff_eq.mpr c30
        clear c30
        (first | rw [c30b0] | (simp only [i64_w, i32_w]; rw [c30b0]) | skip)
        by_cases c31 : t191 = 0
        ·rw [if_pos c31] at H
         have c31b0 := beq_iff_eq.mpr c31
         have c31b1 := bne_eq_false_iff_eq.mpr c31
         clear c31
         replace H := Option.bind_eq_some_iff.mp H
         obtain ⟨t194, A320, H⟩ := H
         (try dsimp only at H)
         have A32 := Aside0.mk A320
         clear A320
         by_cases c33 : t194 = true
         ·subst c33
          have H1 := H; rw [if_pos rfl] at H1
          clear H
          have H := H1
          clear H1
          replace H := Option.bind_eq_some_iff.mp H
          obtain ⟨t195, A340, H⟩ := H
          (try dsimp only at H)
          have A34 := Aside0.mk A340
          clear A340
          have H' := Aside0.mk H
          clear H
          obtain ⟨Ao35, co35, eo35⟩ := Kd.R_slice HO189.out
          subst eo35
          go_wp2_with (first | (go_at_call 24; (try rw [← hT_HO_9]); (with_reducible refine (twiddle_Verify.calls kj13 _ _ t180 _ _ t186 true _ ?side1 ?side2 ?side3 ?side4 A32.out).mono ?_); (case side1 => repeat (first | exact (Kd.R_reads' HO_9.out).2.2 | (with_reducible refine Kd.C_alloc ?_ _) | (with_reducible refine Kd.C_drewN ?_ _) | (with_reducible refine Kd.C_drew ?_))); (case side2 => exact (Kd.R_reads' HO_9.out).2.1); (case side3 => repeat (first | exact (Kd.R_reads' HO189.out).2.2 | (with_reducible refine Kd.C_alloc ?_ _) | (with_reducible refine Kd.C_drewN ?_ _) | (with_reducible refine Kd.C_drew ?_))); (case side4 => exact (Kd.R_reads' HO189.out).2.1); rintro e w36 ⟨rfl, hb⟩; have n0_ := Aside0.mk (Kd.R_below (by (with_reducible repeat (first | apply Kd.R_alloc | apply Kd.R_drewN | apply Kd.R_drew)); exact HO_9.out) hb); have n1_ := Aside0.mk (Kd.R_below (by (with_reducible repeat (first | apply Kd.R_alloc | apply Kd.R_drewN | apply Kd.R_drew)); exact HO189.out) hb); have n2_ := Aside0.mk (Kd.R_below (by (with_reducible repeat (first | apply Kd.R_alloc | apply Kd.R_drewN | apply Kd.R_drew)); exact HO193.out) hb); have n3_ := Aside0.mk (blk_below (g := gb178) (o := .cells #[.int .i64 a0_0, .int .i64 a0_1, .int .u64 a0_2, .slice A0_3 l0_3.length c0_3] 25 (0, 0)) (by (with_reducible repeat (first | refine blk_drewN ?_ _ | refine blk_drew ?_ | refine blk_alloc ?_ _)); exact BK178.out) hb); have n4_ := Aside0.mk (below_step bel_ hb); clear HO_9; clear HO189; clear HO193; clear BK178; clear HB; have HO_9 := n0_; have HO189 := n1_; have HO193 := n2_; have BK178 := n3_; have HB := n4_; clear n0_ n1_ n2_ n3_ n4_; (try clear hb); (try clear hb2); (try clear hk); (try clear hi); obtain ⟨Ao37, co37, eo37⟩ := Kd.R_slice HO193.out; subst eo37) | (go_at_call 24; (try rw [← hT_HO_9]); (with_reducible refine (twiddle_Verify.calls kj13 _ _ t180 _ _ t190 t195 _ ?side1 ?side2 ?side3 ?side4 A34.out).mono ?_); (case side1 => repeat (first | exact (Kd.R_reads' HO_9.out).2.2 | (with_reducible refine Kd.C_alloc ?_ _) | (with_reducible refine Kd.C_drewN ?_ _) | (with_reducible refine Kd.C_drew ?_))); (case side2 => exact (Kd.R_reads' HO_9.out).2.1); (case side3 => repeat (first | exact (Kd.R_reads' HO193.out).2.2 | (with_reducible refine Kd.C_alloc ?_ _) | (with_reducible refine Kd.C_drewN ?_ _) | (with_reducible refine Kd.C_drew ?_))); (case side4 => exact (Kd.R_reads' HO193.out).2.1); rintro e w38 ⟨rfl, hb⟩; have n0_ := Aside0.mk (Kd.R_below (by (with_reducible repeat (first | apply Kd.R_alloc | apply Kd.R_drewN | apply Kd.R_drew)); exact HO_9.out) hb); have n1_ := Aside0.mk (Kd.R_below (by (with_reducible repeat (first | apply Kd.R_alloc | apply Kd.R_drewN | apply Kd.R_drew)); exact HO189.out) hb); have n2_ := Aside0.mk (Kd.R_below (by (with_reducible repeat (first | apply Kd.R_alloc | apply Kd.R_drewN | apply Kd.R_drew)); exact HO193.out) hb); have n3_ := Aside0.mk (blk_below (g := gb178) (o := .cells #[.int .i64 a0_0, .int .i64 a0_1, .int .u64 a0_2, .slice A0_3 l0_3.length c0_3] 25 (0, 0)) (by (with_reducible repeat (first | refine blk_drewN ?_ _ | refine blk_drew ?_ | refine blk_alloc ?_ _)); exact BK178.out) hb); have n4_ := Aside0.mk (below_step bel_ hb); clear HO_9; clear HO189; clear HO193; clear BK178; clear HB; have HO_9 := n0_; have HO189 := n1_; have HO193 := n2_; have BK178 := n3_; have HB := n4_; clear n0_ n1_ n2_ n3_ n4_; (try clear hb); (try clear hb2); (try clear hk); (try clear hi)))
          go_meet
          case rel => exact ⟨_, (!t195), (by first | rfl | (simp; done) | (simp [*]; done)), H', ⟨by have := HJ13.out; first | omega | exact Nat.le_refl _⟩, ⟨by (with_reducible repeat (first | apply Kd.R_alloc | apply Kd.R_drewN | apply Kd.R_drew)); exact HO_9.out⟩, ⟨by (with_reducible repeat (first | apply Kd.R_alloc | apply Kd.R_drewN | apply Kd.R_drew)); exact Kd.R_mono HO189.out (fun _ hk => hk.2)⟩, ⟨by (with_reducible repeat (first | apply Kd.R_alloc | apply Kd.R_drewN | apply Kd.R_drew)); exact Kd.R_mono HO193.out (fun _ hk => hk.2)⟩, ⟨by (with_reducible repeat (first | refine blk_drewN ?_ _ | refine blk_drew ?_ | refine blk_alloc ?_ _)); exact BK178.out⟩, ⟨bel_⟩⟩
         ·replace c33 := Bool.eq_false_iff.mpr c33
          subst c33
          have H1 := H; rw [if_neg (show ¬ (false = true) by decide)] at H1
          clear H
          have H := H1
          clear H1
          have H' := Aside0.mk H
          clear H
          obtain ⟨Ao39, co39, eo39⟩ := Kd.R_slice HO189.out
          subst eo39
          go_wp2_with (first | (go_at_call 24; (try rw [← hT_HO_9]); (with_reducible refine (twiddle_Verify.calls kj13 _ _ t180 _ _ t186 false _ ?side1 ?side2 ?side3 ?side4 A32.out).mono ?_); (case side1 => repeat (first | exact (Kd.R_reads' HO_9.out).2.2 | (with_reducible refine Kd.C_alloc ?_ _) | (with_reducible refine Kd.C_drewN ?_ _) | (with_reducible refine Kd.C_drew ?_))); (case side2 => exact (Kd.R_reads' HO_9.out).2.1); (case side3 => repeat (first | exact (Kd.R_reads' HO189.out).2.2 | (with_reducible refine Kd.C_alloc ?_ _) | (with_reducible refine Kd.C_drewN ?_ _) | (with_reducible refine Kd.C_drew ?_))); (case side4 => exact (Kd.R_reads' HO189.out).2.1); rintro e w40 ⟨rfl, hb⟩; have n0_ := Aside0.mk (Kd.R_below (by (with_reducible repeat (first | apply Kd.R_alloc | apply Kd.R_drewN | apply Kd.R_drew)); exact HO_9.out) hb); have n1_ := Aside0.mk (Kd.R_below (by (with_reducible repeat (first | apply Kd.R_alloc | apply Kd.R_drewN | apply Kd.R_drew)); exact HO189.out) hb); have n2_ := Aside0.mk (Kd.R_below (by (with_reducible repeat (first | apply Kd.R_alloc | apply Kd.R_drewN | apply Kd.R_drew)); exact HO193.out) hb); have n3_ := Aside0.mk (blk_below (g := gb178) (o := .cells #[.int .i64 a0_0, .int .i64 a0_1, .int .u64 a0_2, .slice A0_3 l0_3.length c0_3] 25 (0, 0)) (by (with_reducible repeat (first | refine blk_drewN ?_ _ | refine blk_drew ?_ | refine blk_alloc ?_ _)); exact BK178.out) hb); have n4_ := Aside0.mk (below_step bel_ hb); clear HO_9; clear HO189; clear HO193; clear BK178; clear HB; have HO_9 := n0_; have HO189 := n1_; have HO193 := n2_; have BK178 := n3_; have HB := n4_; clear n0_ n1_ n2_ n3_ n4_; (try clear hb); (try clear hb2); (try clear hk); (try clear hi)))
          go_meet
          case rel => exact ⟨_, (true), (by first | rfl | (simp; done) | (simp [*]; done)), H', ⟨by have := HJ13.out; first | omega | exact Nat.le_refl _⟩, ⟨by (with_reducible repeat (first | apply Kd.R_alloc | apply Kd.R_drewN | apply Kd.R_drew)); exact HO_9.out⟩, ⟨by (with_reducible repeat (first | apply Kd.R_alloc | apply Kd.R_drewN | apply Kd.R_drew)); exact Kd.R_mono HO189.out (fun _ hk => hk.2)⟩, ⟨by (with_reducible repeat (first | apply Kd.R_alloc | apply Kd.R_drewN | apply Kd.R_drew)); exact Kd.R_mono HO193.out (fun _ hk => hk.2)⟩, ⟨by (with_reducible repeat (first | refine blk_drewN ?_ _ | refine blk_drew ?_ | refine blk_alloc ?_ _)); exact BK178.out⟩, ⟨bel_⟩⟩
        ·rw [if_neg c31] at H
         have c31b0 := beq_eq_false_iff_ne.mpr c31
         have c31b1 := bne_iff_ne.mpr c31
         have H' := Aside0.mk H
         clear H
         go_wp2
         go_meet
         case rel => exact ⟨_, (true), (by first | rfl | (simp; done) | (simp [*]; done)), H', ⟨by have := HJ13.out; first | omega | exact Nat.le_refl _⟩, ⟨by (with_reducible repeat (first | apply Kd.R_alloc | apply Kd.R_drewN | apply Kd.R_drew)); exact HO_9.out⟩, ⟨by (with_reducible repeat (first | apply Kd.R_alloc | apply Kd.R_drewN | apply Kd.R_drew)); exact Kd.R_mono HO189.out (fun _ hk => hk.2)⟩, ⟨by (with_reducible repeat (first | apply Kd.R_alloc | apply Kd.R_drewN | apply Kd.R_drew)); exact Kd.R_mono HO193.out (fun _ hk => hk.2)⟩, ⟨by (with_reducible repeat (first | refine blk_drewN ?_ _ | refine blk_drew ?_ | refine blk_alloc ?_ _)); exact BK178.out⟩, ⟨bel_⟩⟩
       ·rw [if_neg c30] at H
        have c30b0 := beq_eq_false_iff_ne.mpr c30
        have c30b1 := bne_iff_ne.mpr c30
        (first | rw [c30b0] | (simp only [i64_w, i32_w]; rw [c30b0]) | skip)
        have H' := Aside0.mk H
        clear H
        go_wp2
        go_meet
        case rel => exact ⟨_, (true), (by first | rfl | (simp; done) | (simp [*]; done)), H', ⟨by have := HJ13.out; first | omega | exact Nat.le_refl _⟩, ⟨by (with_reducible repeat (first | apply Kd.R_alloc | apply Kd.R_drewN | apply Kd.R_drew)); exact HO_9.out⟩, ⟨by (with_reducible repeat (first | apply Kd.R_alloc | apply Kd.R_drewN | apply Kd.R_drew)); exact Kd.R_mono HO189.out (fun _ hk => hk.2)⟩, ⟨by (with_reducible repeat (first | apply Kd.R_alloc | apply Kd.R_drewN | apply Kd.R_drew)); exact Kd.R_mono HO193.out (fun _ hk => hk.2)⟩, ⟨by (with_reducible repeat (first | refine blk_drewN ?_ _ | refine blk_drew ?_ | refine blk_alloc ?_ _)); exact BK178.out⟩, ⟨bel_⟩⟩
      case rest =>
       clear HC26
       try clear c1
       try clear c2
       try clear p2
       try clear c3
       try clear c6
       try clear c8
       try clear c8b0
       try clear c8b1
       try clear c9
       try clear c9b0
       try clear c9b1
       try clear c9b2
       try clear c19
       try clear c19b0
       try clear c20
       try clear c20b0
       try clear c23
       try clear c30
       try clear c30b0
       try clear c30b1
       try clear c31
       try clear c31b0
       try clear c31b1
       try clear c33
       try clear hcz12_0
       try clear hcz12_1
       try clear hcz12_2
       try clear hcz12_3
       try clear hcz17_0
       try clear hcz17_1
       try clear hcz17_2
       try clear hcz17_3
       try clear hfz12_0
       try clear hfz12_1
       try clear hfz12_2
       try clear hfz12_3
       try clear hfz17_0
       try clear hfz17_1
       try clear hfz17_2
       try clear hfz17_3
       try clear p2
       obtain ⟨kq, x71_25, rfl, HA, HJ25, HO_9, HO_12, HO_14, BK178, HB⟩ := hcut
       cases kq with
       | zero => exact absurd HA.out (by simp [epicyclelaw10_TwiddleCertified.j1])
       | succ kj25 =>
        have H := HA.out
        clear HA
        simp only [epicyclelaw10_TwiddleCertified.j1] at H
        by_cases c41 : x71_25 = true
        ·subst c41
         have H1 := H; rw [if_pos rfl] at H1
         clear H
         have H := H1
         clear H1
         exact absurd H (by simp)
        ·replace c41 := Bool.eq_false_iff.mpr c41
         subst c41
         have H1 := H; rw [if_neg (show ¬ (false = true) by decide)] at H1
         clear H
         have H := H1
         clear H1
         have H' := Aside0.mk H
         clear H
         obtain ⟨Ao42, co42, eo42⟩ := Kd.R_slice HO_12.out
         subst eo42
         go_wp2
         go_loopg [74] kj25 (fun kq v74 w' => ∃ (x74_3 : Int), v74 = .int .i64 x74_3 ∧ Aside0 (epicyclelaw10_TwiddleCertified.l0 kq a1 a2 a3 t180 t183 t186 t190 (t186.length : Int) x74_3 = some true) ∧ Aside0 (kq ≤ kj25) ∧ Aside0 (Kd.R kFld 70 w' w.heap.size (fun _ => True) (.slice Ao27 t180.length co27) t180) ∧ Aside0 (Kd.R (Kd.int .u64) 22 w' w.heap.size (fun k_ => some k_ ≠ (v192 : Value).ownBlock) (.slice Ao42 t186.length co42) t186) ∧ Aside0 (Kd.R (Kd.int .u64) 22 w' w.heap.size (fun k_ => some k_ ≠ ((.slice Ao42 t186.length co42) : Value).ownBlock) v192 t190) ∧ Aside0 (w'.heap[gb178]? = some (.cells #[.int .i64 a0_0, .int .i64 a0_1, .int .u64 a0_2, (.slice A0_3 l0_3.length c0_3)] 25 (0, 0))) ∧ Aside0 (Below w.heap.size w w'))
         case atStart => exact ⟨(0), (by first | rfl | (simp; done) | (simp [*]; done)), H', ⟨Nat.le_refl _⟩, ⟨by (with_reducible repeat (first | apply Kd.R_alloc | apply Kd.R_drewN | apply Kd.R_drew)); exact HO_9.out⟩, ⟨by (with_reducible repeat (first | apply Kd.R_alloc | apply Kd.R_drewN | apply Kd.R_drew)); exact HO_12.out⟩, ⟨by (with_reducible repeat (first | apply Kd.R_alloc | apply Kd.R_drewN | apply Kd.R_drew)); exact HO_14.out⟩, ⟨by (with_reducible repeat (first | refine blk_drewN ?_ _ | refine blk_drew ?_ | refine blk_alloc ?_ _)); exact BK178.out⟩, ⟨bel_⟩⟩
         case round =>
          clear H'
          try clear c1
          try clear c2
          try clear p2
          try clear c3
          try clear c4
          try clear c6
          try clear c8
          try clear c8b0
          try clear c8b1
          try clear c9
          try clear c9b0
          try clear c9b1
          try clear c9b2
          try clear c19
          try clear c19b0
          try clear c20
          try clear c20b0
          try clear c23
          try clear c30
          try clear c30b0
          try clear c30b1
          try clear c31
          try clear c31b0
          try clear c31b1
          try clear c33
          try clear c41
          try clear hcz12_0
          try clear hcz12_1
          try clear hcz12_2
          try clear hcz12_3
          try clear hcz17_0
          try clear hcz17_1
          try clear hcz17_2
          try clear hcz17_3
          try clear hfz12_0
          try clear hfz12_1
          try clear hfz12_2
          try clear hfz12_3
          try clear hfz17_0
          try clear hfz17_1
          try clear hfz17_2
          try clear hfz17_3
          try clear p2
          obtain ⟨x74_3, rfl, HA, HK3, HO_9, HO_12, HO_14, BK178, HB⟩ := hrel
          cases gk with
          | zero => exact absurd HA.out (by simp [epicyclelaw10_TwiddleCertified.l0])
          | succ k3 =>
           have H := HA.out
           clear HA
           simp only [epicyclelaw10_TwiddleCertified.l0] at H
           by_cases c43 : x74_3 < (t186.length : Int)
           ·rw [if_pos c43] at H
            have c43b0 := decide_eq_true c43
            clear c43
            have HC44 := Aside0.mk H
            clear H
            go_upto_region 15 with (fail)
            go_cut [102] (fun v102 wc => ∃ (kq : Nat) (x102_43 : Bool), v102 = .bool x102_43 ∧ Aside0 (epicyclelaw10_TwiddleCertified.j3 kq a1 a2 a3 t180 t183 t186 t190 (t186.length : Int) x74_3 x102_43 = some true) ∧ Aside0 (kq ≤ k3) ∧ Aside0 (Kd.R kFld 70 wc w.heap.size (fun _ => True) (.slice Ao27 t180.length co27) t180) ∧ Aside0 (Kd.R (Kd.int .u64) 22 wc w.heap.size (fun k_ => some k_ ≠ (v192 : Value).ownBlock) (.slice Ao42 t186.length co42) t186) ∧ Aside0 (Kd.R (Kd.int .u64) 22 wc w.heap.size (fun k_ => some k_ ≠ ((.slice Ao42 t186.length co42) : Value).ownBlock) v192 t190) ∧ Aside0 (wc.heap[gb178]? = some (.cells #[.int .i64 a0_0, .int .i64 a0_1, .int .u64 a0_2, (.slice A0_3 l0_3.length c0_3)] 25 (0, 0))) ∧ Aside0 (Below w.heap.size w wc))
            case first =>
             have H := HC44.out
             clear HC44
             by_cases c45 : 0 ≤ x74_3
             ·rw [if_pos c45] at H
              have c45b0 := decide_eq_true c45
              clear c45
              (first | rw [c45b0] | (simp only [i64_w, i32_w]; rw [c45b0]) | skip)
              by_cases c46 : x74_3 < (t186.length : Int)
              ·rw [if_pos c46] at H
               have c46b0 := decide_eq_true c46
               clear c46
               by_cases c47 : x74_3 < (t190.length : Int)
               ·rw [if_pos c47] at H
                have c47b0 := decide_eq_true c47
                clear c47
                replace H := Option.bind_eq_some_iff.mp H
                obtain ⟨t198, A480, H⟩ := H
                (try dsimp only at H)
                have A48 := Aside0.mk A480
                clear A480
                by_cases c49 : t198 = 1
                ·rw [if_pos c49] at H
                 have c49b0 := beq_iff_eq.mpr c49
                 have c49b1 := bne_eq_false_iff_eq.mpr c49
                 clear c49
                 by_cases c50 : a1 = 0
                 ·rw [if_pos c50] at H
                  exact absurd H (by simp)
                 ·rw [if_neg c50] at H
                  have c50b0 := beq_eq_false_iff_ne.mpr c50
                  have c50b1 := bne_iff_ne.mpr c50
                  obtain ⟨ji51, hji51⟩ : ∃ j_ : Int, (Int.tmod (wrap64 (a1 - x74_3)) a1) = j_ := ⟨_, rfl⟩
                  (first | rw [hji51] at H | simp only [hji51] at H)
                  (try rw [hji51] at A48)
                  have hji51v : (Int.tmod (IntKind.i64.wrap (a1 - x74_3)) a1) = ji51 := by simp only [i64_w]; exact hji51
                  by_cases c52 : 0 ≤ (ji51)
                  ·rw [if_pos c52] at H
                   have c52b0 := decide_eq_true c52
                   clear c52
                   by_cases c53 : (ji51) < (t186.length : Int)
                   ·rw [if_pos c53] at H
                    have c53b0 := decide_eq_true c53
                    clear c53
                    have H' := Aside0.mk H
                    clear H
                    have p196 : 0 ≤ (x74_3 : Int) := of_decide_eq_true (by assumption)
                    have q196 : x74_3 < (t186.length : Int) := of_decide_eq_true (by assumption)
                    obtain ⟨ad196, e196, hx196_0⟩ := Kd.at_int (Kd.R_reads' HO_12.out).2.2 x74_3 p196 q196
                    cases e196
                    replace p196 := eq_true p196
                    replace q196 := eq_true q196
                    obtain ⟨Ao54, co54, eo54⟩ := Kd.R_slice HO_14.out
                    subst eo54
                    have p197 : 0 ≤ (x74_3 : Int) := of_decide_eq_true (by assumption)
                    have q197 : x74_3 < (t190.length : Int) := of_decide_eq_true (by assumption)
                    obtain ⟨ad197, e197, hx197_0⟩ := Kd.at_int (Kd.R_reads' HO_14.out).2.2 x74_3 p197 q197
                    cases e197
                    replace p197 := eq_true p197
                    replace q197 := eq_true q197
                    go_wp2_with (first | (go_at_call 19; (try rw [← hT_HO_9]); (with_reducible refine (field_Field_Mul.calls _ _ t180 (rd t186 x74_3) (rd t190 x74_3) t198 _ ?side1 ?side2 A48.out).mono ?_); (case side1 => repeat (first | exact (Kd.R_reads' HO_9.out).2.2 | (with_reducible refine Kd.C_alloc ?_ _) | (with_reducible refine Kd.C_drewN ?_ _) | (with_reducible refine Kd.C_drew ?_))); (case side2 => exact (Kd.R_reads' HO_9.out).2.1); rintro e w' ⟨rfl, ⟨nd, rfl⟩⟩; (try first | exact ⟨rfl, _, World.drewN_drewN _ _ _⟩ | exact ⟨rfl, _, Eq.trans (World.drewN_drewN _ _ _) (congrArg (World.drewN _) (Nat.add_assoc _ _ _))⟩); have p199 : 0 ≤ (x74_3 : Int) := of_decide_eq_true (by assumption); have q199 : x74_3 < (t190.length : Int) := of_decide_eq_true (by assumption); obtain ⟨ad199, e199, hx199_0⟩ := Kd.at_int (Kd.R_reads' HO_14.out).2.2 x74_3 p199 q199; obtain rfl : ad197 = ad199 := (by injection e199); replace p199 := eq_true p199; replace q199 := eq_true q199; have p200 : 0 ≤ ((ji51) : Int) := of_decide_eq_true (by assumption); have q200 : (ji51) < (t186.length : Int) := of_decide_eq_true (by assumption); obtain ⟨ad200, e200, hx200_0⟩ := Kd.at_int (Kd.R_reads' HO_12.out).2.2 (ji51) p200 q200; obtain rfl : ad196 = ad200 := (by injection e200); replace p200 := eq_true p200; replace q200 := eq_true q200))
                    repeat (go_quiet (first | (go_at_call 19; (try rw [← hT_HO_9]); (with_reducible refine (field_Field_Mul.calls _ _ t180 (rd t186 x74_3) (rd t190 x74_3) t198 _ ?side1 ?side2 A48.out).mono ?_); (case side1 => repeat (first | exact (Kd.R_reads' HO_9.out).2.2 | (with_reducible refine Kd.C_alloc ?_ _) | (with_reducible refine Kd.C_drewN ?_ _) | (with_reducible refine Kd.C_drew ?_))); (case side2 => exact (Kd.R_reads' HO_9.out).2.1); rintro e w' ⟨rfl, ⟨nd, rfl⟩⟩; (try first | exact ⟨rfl, _, World.drewN_drewN _ _ _⟩ | exact ⟨rfl, _, Eq.trans (World.drewN_drewN _ _ _) (congrArg (World.drewN _) (Nat.add_assoc _ _ _))⟩); have p199 : 0 ≤ (x74_3 : Int) := of_decide_eq_true (by assumption); have q199 : x74_3 < (t190.length : Int) := of_decide_eq_true (by assumption); obtain ⟨ad199, e199, hx199_0⟩ := Kd.at_int (Kd.R_reads' HO_14.out).2.2 x74_3 p199 q199; obtain rfl : ad197 = ad199 := (by injection e199); replace p199 := eq_true p199; replace q199 := eq_true q199; have p200 : 0 ≤ ((ji51) : Int) := of_decide_eq_true (by assumption); have q200 : (ji51) < (t186.length : Int) := of_decide_eq_true (by assumption); obtain ⟨ad200, e200, hx200_0⟩ := Kd.at_int (Kd.R_reads' HO_12.out).2.2 (ji51) p200 q200; obtain rfl : ad196 = ad200 := (by injection e200); replace p200 := eq_true p200; replace q200 := eq_true q200)); try go_wp2_with (first | (go_at_call 19; (try rw [← hT_HO_9]); (with_reducible refine (field_Field_Mul.calls _ _ t180 (rd t186 x74_3) (rd t190 x74_3) t198 _ ?side1 ?side2 A48.out).mono ?_); (case side1 => repeat (first | exact (Kd.R_reads' HO_9.out).2.2 | (with_reducible refine Kd.C_alloc ?_ _) | (with_reducible refine Kd.C_drewN ?_ _) | (with_reducible refine Kd.C_drew ?_))); (case side2 => exact (Kd.R_reads' HO_9.out).2.1); rintro e w' ⟨rfl, ⟨nd, rfl⟩⟩; (try first | exact ⟨rfl, _, World.drewN_drewN _ _ _⟩ | exact ⟨rfl, _, Eq.trans (World.drewN_drewN _ _ _) (congrArg (World.drewN _) (Nat.add_assoc _ _ _))⟩); have p199 : 0 ≤ (x74_3 : Int) := of_decide_eq_true (by assumption); have q199 : x74_3 < (t190.length : Int) := of_decide_eq_true (by assumption); obtain ⟨ad199, e199, hx199_0⟩ := Kd.at_int (Kd.R_reads' HO_14.out).2.2 x74_3 p199 q199; obtain rfl : ad197 = ad199 := (by injection e199); replace p199 := eq_true p199; replace q199 := eq_true q199; have p200 : 0 ≤ ((ji51) : Int) := of_decide_eq_true (by assumption); have q200 : (ji51) < (t186.length : Int) := of_decide_eq_true (by assumption); obtain ⟨ad200, e200, hx200_0⟩ := Kd.at_int (Kd.R_reads' HO_12.out).2.2 (ji51) p200 q200; obtain rfl : ad196 = ad200 := (by injection e200); replace p200 := eq_true p200; replace q200 := eq_true q200)))
                    go_meet
                    case rel => exact ⟨_, (((rd t190 x74_3) != (rd t186 (ji51)))), (by first | rfl | (simp; done) | (simp only [← hji51] <;> (first | rfl | simp)) | (simp [*]; done)), H', ⟨by have := HJ13.out; have := HJ25.out; have := HK3.out; first | omega | exact Nat.le_refl _⟩, ⟨by (with_reducible repeat (first | apply Kd.R_alloc | apply Kd.R_drewN | apply Kd.R_drew)); exact HO_9.out⟩, ⟨by (with_reducible repeat (first | apply Kd.R_alloc | apply Kd.R_drewN | apply Kd.R_drew)); exact HO_12.out⟩, ⟨by (with_reducible repeat (first | apply Kd.R_alloc | apply Kd.R_drewN | apply Kd.R_drew)); exact HO_14.out⟩, ⟨by (with_reducible repeat (first | refine blk_drewN ?_ _ | refine blk_drew ?_ | refine blk_alloc ?_ _)); exact BK178.out⟩, ⟨bel_⟩⟩
                   ·rw [if_neg c53] at H
                    exact absurd H (by simp)
                  ·rw [if_neg c52] at H
                   exact absurd H (by simp)
                ·rw [if_neg c49] at H
                 have c49b0 := beq_eq_false_iff_ne.mpr c49
                 have c49b1 := bne_iff_ne.mpr c49
                 have H' := Aside0.mk H
                 clear H
                 have p196 : 0 ≤ (x74_3 : Int) := of_decide_eq_true (by assumption)
                 have q196 : x74_3 < (t186.length : Int) := of_decide_eq_true (by assumption)
                 obtain ⟨ad196, e196, hx196_0⟩ := Kd.at_int (Kd.R_reads' HO_12.out).2.2 x74_3 p196 q196
                 cases e196
                 replace p196 := eq_true p196
                 replace q196 := eq_true q196
                 obtain ⟨Ao55, co55, eo55⟩ := Kd.R_slice HO_14.out
                 subst eo55
                 have p197 : 0 ≤ (x74_3 : Int) := of_decide_eq_true (by assumption)
                 have q197 : x74_3 < (t190.length : Int) := of_decide_eq_true (by assumption)
                 obtain ⟨ad197, e197, hx197_0⟩ := Kd.at_int (Kd.R_reads' HO_14.out).2.2 x74_3 p197 q197
                 cases e197
                 replace p197 := eq_true p197
                 replace q197 := eq_true q197
                 go_wp2_with (first | (go_at_call 19; (try rw [← hT_HO_9]); (with_reducible refine (field_Field_Mul.calls _ _ t180 (rd t186 x74_3) (rd t190 x74_3) t198 _ ?side1 ?side2 A48.out).mono ?_); (case side1 => repeat (first | exact (Kd.R_reads' HO_9.out).2.2 | (with_reducible refine Kd.C_alloc ?_ _) | (with_reducible refine Kd.C_drewN ?_ _) | (with_reducible refine Kd.C_drew ?_))); (case side2 => exact (Kd.R_reads' HO_9.out).2.1); rintro e w' ⟨rfl, ⟨nd, rfl⟩⟩; (try first | exact ⟨rfl, _, World.drewN_drewN _ _ _⟩ | exact ⟨rfl, _, Eq.trans (World.drewN_drewN _ _ _) (congrArg (World.drewN _) (Nat.add_assoc _ _ _))⟩)))
                 repeat (go_quiet (first | (go_at_call 19; (try rw [← hT_HO_9]); (with_reducible refine (field_Field_Mul.calls _ _ t180 (rd t186 x74_3) (rd t190 x74_3) t198 _ ?side1 ?side2 A48.out).mono ?_); (case side1 => repeat (first | exact (Kd.R_reads' HO_9.out).2.2 | (with_reducible refine Kd.C_alloc ?_ _) | (with_reducible refine Kd.C_drewN ?_ _) | (with_reducible refine Kd.C_drew ?_))); (case side2 => exact (Kd.R_reads' HO_9.out).2.1); rintro e w' ⟨rfl, ⟨nd, rfl⟩⟩; (try first | exact ⟨rfl, _, World.drewN_drewN _ _ _⟩ | exact ⟨rfl, _, Eq.trans (World.drewN_drewN _ _ _) (congrArg (World.drewN _) (Nat.add_assoc _ _ _))⟩))); try go_wp2_with (first | (go_at_call 19; (try rw [← hT_HO_9]); (with_reducible refine (field_Field_Mul.calls _ _ t180 (rd t186 x74_3) (rd t190 x74_3) t198 _ ?side1 ?side2 A48.out).mono ?_); (case side1 => repeat (first | exact (Kd.R_reads' HO_9.out).2.2 | (with_reducible refine Kd.C_alloc ?_ _) | (with_reducible refine Kd.C_drewN ?_ _) | (with_reducible refine Kd.C_drew ?_))); (case side2 => exact (Kd.R_reads' HO_9.out).2.1); rintro e w' ⟨rfl, ⟨nd, rfl⟩⟩; (try first | exact ⟨rfl, _, World.drewN_drewN _ _ _⟩ | exact ⟨rfl, _, Eq.trans (World.drewN_drewN _ _ _) (congrArg (World.drewN _) (Nat.add_assoc _ _ _))⟩))))
                 go_meet
                 case rel => exact ⟨_, (true), (by first | rfl | (simp; done) | (simp [*]; done)), H', ⟨by have := HJ13.out; have := HJ25.out; have := HK3.out; first | omega | exact Nat.le_refl _⟩, ⟨by (with_reducible repeat (first | apply Kd.R_alloc | apply Kd.R_drewN | apply Kd.R_drew)); exact HO_9.out⟩, ⟨by (with_reducible repeat (first | apply Kd.R_alloc | apply Kd.R_drewN | apply Kd.R_drew)); exact HO_12.out⟩, ⟨by (with_reducible repeat (first | apply Kd.R_alloc | apply Kd.R_drewN | apply Kd.R_drew)); exact HO_14.out⟩, ⟨by (with_reducible repeat (first | refine blk_drewN ?_ _ | refine blk_drew ?_ | refine blk_alloc ?_ _)); exact BK178.out⟩, ⟨bel_⟩⟩
               ·rw [if_neg c47] at H
                exact absurd H (by simp)
              ·rw [if_neg c46] at H
               exact absurd H (by simp)
             ·rw [if_neg c45] at H
              exact absurd H (by simp)
            case rest =>
             clear HC44
             try clear c1
             try clear p1
             try clear q1
             try clear hx1
             try clear c2
             try clear p2
             try clear q2
             try clear hx2
             try clear c3
             try clear c4
             try clear c5
             try clear c6
             try clear p6
             try clear c8
             try clear c8b0
             try clear c8b1
             try clear c9
             try clear c9b0
             try clear c9b1
             try clear c9b2
             try clear c19
             try clear c19b0
             try clear p19
             try clear q19
             try clear hx19
             try clear c20
             try clear c20b0
             try clear p20
             try clear q20
             try clear hx20
             try clear c23
             try clear c30
             try clear c30b0
             try clear c30b1
             try clear c31
             try clear c31b0
             try clear c31b1
             try clear c33
             try clear c41
             try clear c43
             try clear c43b0
             try clear c45
             try clear c45b0
             try clear c46
             try clear c46b0
             try clear c47
             try clear c47b0
             try clear c49
             try clear c49b0
             try clear c49b1
             try clear c50
             try clear c50b0
             try clear c50b1
             try clear c52
             try clear c52b0
             try clear c53
             try clear c53b0
             try clear hcz12_0
             try clear hcz12_1
             try clear hcz12_2
             try clear hcz12_3
             try clear hcz17_0
             try clear hcz17_1
             try clear hcz17_2
             try clear hcz17_3
             try clear hfz12_0
             try clear hfz12_1
             try clear hfz12_2
             try clear hfz12_3
             try clear hfz17_0
             try clear hfz17_1
             try clear hfz17_2
             try clear hfz17_3
             try clear hx196_0
             try clear hx197_0
             try clear hx199_0
             try clear hx200_0
             try clear p196
             try clear p197
             try clear p199
             try clear p2
             try clear p200
             try clear q196
             try clear q197
             try clear q199
             try clear q200
             obtain ⟨kq, x102_43, rfl, HA, HJ43, HO_9, HO_12, HO_14, BK178, HB⟩ := hcut
             cases kq with
             | zero => exact absurd HA.out (by simp [epicyclelaw10_TwiddleCertified.j3])
             | succ kj43 =>
              have H := HA.out
              clear HA
              simp only [epicyclelaw10_TwiddleCertified.j3] at H
              by_cases c56 : x102_43 = true
              ·subst c56
               have H1 := H; rw [if_pos rfl] at H1
               clear H
               have H := H1
               clear H1
               exact absurd H (by simp)
              ·replace c56 := Bool.eq_false_iff.mpr c56
               subst c56
               have H1 := H; rw [if_neg (show ¬ (false = true) by decide)] at H1
               clear H
               have H := H1
               clear H1
               have H' := Aside0.mk H
               clear H
               go_wp2
               go_roundg kj43
               case measure => have := HJ13.out; have := HJ25.out; have := HK3.out; have := HJ43.out; omega
               case rel => exact ⟨(wrap64 (x74_3 + 1)), (by first | rfl | (simp; done) | (simp [*]; done)), H', ⟨by have := HJ13.out; have := HJ25.out; have := HK3.out; have := HJ43.out; omega⟩, ⟨by (with_reducible repeat (first | apply Kd.R_alloc | apply Kd.R_drewN | apply Kd.R_drew)); exact HO_9.out⟩, ⟨by (with_reducible repeat (first | apply Kd.R_alloc | apply Kd.R_drewN | apply Kd.R_drew)); exact HO_12.out⟩, ⟨by (with_reducible repeat (first | apply Kd.R_alloc | apply Kd.R_drewN | apply Kd.R_drew)); exact HO_14.out⟩, ⟨by (with_reducible repeat (first | refine blk_drewN ?_ _ | refine blk_drew ?_ | refine blk_alloc ?_ _)); exact BK178.out⟩, ⟨bel_⟩⟩
           ·rw [if_neg c43] at H
            have c43b0 := decide_eq_false c43
            clear c43
            by_cases c57 : (IntKind.u64.wrap (a1)) = 0
            ·rw [if_pos c57] at H
             exact absurd H (by simp)
            ·rw [if_neg c57] at H
             have c57b0 := beq_eq_false_iff_ne.mpr c57
             have c57b1 := bne_iff_ne.mpr c57
             obtain ⟨ji58, hji58⟩ : ∃ j_ : Int, (wrap64 (Int.tmod (IntKind.u64.wrap (a2)) (IntKind.u64.wrap (a1)))) = j_ := ⟨_, rfl⟩
             (first | rw [hji58] at H | simp only [hji58] at H)
             have hji58w : (IntKind.i64.wrap (Int.tmod (IntKind.u64.wrap (a2)) (IntKind.u64.wrap (a1)))) = ji58 := (i64_w _).trans hji58
             by_cases c59 : 0 ≤ (ji58)
             ·rw [if_pos c59] at H
              have c59b0 := decide_eq_true c59
              clear c59
              by_cases c60 : (ji58) < (t186.length : Int)
              ·rw [if_pos c60] at H
               have c60b0 := decide_eq_true c60
               clear c60
               by_cases c61 : (rd t186 (ji58)) = a3
               ·rw [if_pos c61] at H
                have c61b0 := beq_iff_eq.mpr c61
                have c61b1 := bne_eq_false_iff_eq.mpr c61
                clear c61
                clear H
                have p201 : 0 ≤ ((ji58) : Int) := of_decide_eq_true (by assumption)
                have q201 : (ji58) < (t186.length : Int) := of_decide_eq_true (by assumption)
                obtain ⟨ad201, e201, hx201_0⟩ := Kd.at_int (Kd.R_reads' HO_12.out).2.2 (ji58) p201 q201
                cases e201
                replace p201 := eq_true p201
                replace q201 := eq_true q201
                go_wp2
                go_ret
                exact ⟨by first | rfl | (simp [errW_none, errW_some] <;> rfl) | (simp only [← hji58]; first | rfl | (simp [errW_none, errW_some] <;> rfl)) | (simp [*, errW_none, errW_some] <;> rfl), bel_⟩
               ·rw [if_neg c61] at H
                have c61b0 := beq_eq_false_iff_ne.mpr c61
                have c61b1 := bne_iff_ne.mpr c61
                obtain ⟨y202, hy202⟩ : ∃ y_ : List Int, y_ = (t186.set ((ji58) : Int).toNat a3) := ⟨_, rfl⟩
                replace H : ((twiddle_Verify.f k3 t180 y202).bind fun t203 => ((epicycleref10_Right.f k3 t183 y202).bind fun t204 => (some (t203 == t204)))) = some true := by first | (rw [hy202]; with_reducible exact H) | (have H2_ := (Option.bind_some _ _).symm.trans H; rw [hy202]; with_reducible exact H2_) | (have H2_ := (Option.bind_some _ _).symm.trans H; with_reducible exact H2_) | with_reducible exact H | (rw [hy202]; exact H) | exact H
                have Ny202 := Aside0.mk hy202
                clear hy202
                replace H := Option.bind_eq_some_iff.mp H
                obtain ⟨t203, A630, H⟩ := H
                (try dsimp only at H)
                have A63 := Aside0.mk A630
                clear A630
                replace H := Option.bind_eq_some_iff.mp H
                obtain ⟨t204, A640, H⟩ := H
                (try dsimp only at H)
                have A64 := Aside0.mk A640
                clear A640
                have hR_ := Option.some.inj H
                have p201 : 0 ≤ ((ji58) : Int) := of_decide_eq_true (by assumption)
                have q201 : (ji58) < (t186.length : Int) := of_decide_eq_true (by assumption)
                obtain ⟨ad201, e201, hx201_0⟩ := Kd.at_int (Kd.R_reads' HO_12.out).2.2 (ji58) p201 q201
                cases e201
                replace p201 := eq_true p201
                replace q201 := eq_true q201
                have p62 : 0 ≤ ((ji58) : Int) := of_decide_eq_true (by assumption)
                have q62 : ((ji58) : Int) < ((t186.length : Int) : Int) := of_decide_eq_true (by assumption)
                obtain ⟨go62, co62, eo62, gb62, gl62, cl62, HG62⟩ := Kd.R_form HO_12.out (by omega)
                (first | cases eo62 | (injection eo62 with ea_ en_ ec_; (first | subst ea_ | (injection ea_ with ea_; subst ea_)); subst ec_; clear en_))
                have GB62 := Aside0.mk gb62
                have GG62 := Aside0.mk HG62
                clear gb62 gl62 HG62
                (first | simp only [add_plain] at hx201_0 | skip)
                obtain ⟨hx62_0, hf62_0⟩ := Kd.R_celln 0 HO_12.out ((ji58) : Int) p62 q62
                replace p62 := eq_true p62
                replace q62 := eq_true q62
                have HP65 := Kd.R_putg HO_12.out ((ji58) : Int) a3
                go_wp2_with (first | ((with_reducible refine gate_store (t := 22) (p := 119) rfl ?_); (try (rw [drewN_self wr]; generalize hq_ : World.drewN wr _ = wr; have n0_ := Aside0.mk (Kd.R_at hq_ HO_9.out); have n1_ := Aside0.mk (Kd.R_at hq_ HO_12.out); have n2_ := Aside0.mk (Kd.R_at hq_ HO_14.out); have n3_ := Aside0.mk (blk_at hq_ BK178.out); have n4_ := Aside0.mk (below_at hq_ HB.out); clear hq_ HO_9 HO_12 HO_14 BK178 HB; have HO_9 := n0_; have HO_12 := n1_; have HO_14 := n2_; have BK178 := n3_; have HB := n4_; clear n0_ n1_ n2_ n3_ n4_; (try (have HP65 := Kd.R_putg HO_12.out ((ji58) : Int) a3)))); refine store_event (t := 22) (p := 119) (v := ?vo_w66) (w1 := (wr.setCell ⟨go62, ((ji58) : Int).toNat, none⟩ (.int .u64 a3))) ?hg ?ho ?hn ?hr ?_; (case ho => rfl); (case hg => rfl); (case hn => rfl); (case hr => first | (go_simp; done) | (go_simp; rfl)); intro w66 hw; have hg : wr.grownBy w66 (some go62) := (by rw [hw]; exact HP65.2); have hp_ : Kd.R (Kd.int .u64) 22 w66 w.heap.size (fun k_ => some k_ ≠ (v192 : Value).ownBlock) (.slice (some ⟨go62, 0, none⟩) t186.length co42) y202 := (by rw [hw, Ny202.out]; exact HP65.1); clear HP65; have n0_ := Aside0.mk (Kd.R_over' (v := (.slice (some ⟨go62, 0, none⟩) t186.length co42)) (by (with_reducible repeat (first | apply Kd.R_alloc | apply Kd.R_drewN | apply Kd.R_drew)); exact HO_9.out) (Kd.R_typed HO_12.out) (by decide) hg); have n1_ := Aside0.mk (hp_); have n2_ := Aside0.mk (Kd.R_after (v := (.slice (some ⟨go62, 0, none⟩) t186.length co42)) (v1 := (.slice (some ⟨go62, 0, none⟩) t186.length co42)) (ok := (fun _ => True)) (by (with_reducible repeat (first | apply Kd.R_alloc | apply Kd.R_drewN | apply Kd.R_drew)); exact Kd.R_mono HO_14.out (fun _ hk => ⟨trivial, hk⟩)) hg (.inl rfl)); have n3_ := Aside0.mk (blk_grown (g := gb178) (o := .cells #[.int .i64 a0_0, .int .i64 a0_1, .int .u64 a0_2, .slice A0_3 l0_3.length c0_3] 25 (0, 0)) (by (with_reducible repeat (first | refine blk_drewN ?_ _ | refine blk_drew ?_ | refine blk_alloc ?_ _)); exact BK178.out) hg (Kd.R_ne HO_12.out BK178.out (by decide))); have n4_ := Aside0.mk ((by rw [hw]; exact below_set (HB.out) GB62.out : Below w.heap.size w w66)); clear HO_9; clear HO_12; clear HO_14; clear BK178; clear HB; have HO_9 := n0_; have HO_12 := n1_; have HO_14 := n2_; have BK178 := n3_; have HB := n4_; clear n0_ n1_ n2_ n3_ n4_; clear hg hw hp_) | (go_at_call 24; refine calls_of_args (args' := #[toPtr (.slice Ao27 t180.length co27), .slice (some ⟨go62, 0, none⟩) y202.length co42]) (by first | (rw [show y202.length = t186.length from (Kd.R_reads' HO_12.out).1.symm] <;> rfl) | rfl) ?_; (try rw [← hT_HO_9]); (with_reducible refine (twiddle_Verify.calls k3 _ _ t180 _ _ y202 t203 _ ?side1 ?side2 ?side3 ?side4 A63.out).mono ?_); (case side1 => repeat (first | exact (Kd.R_reads' HO_9.out).2.2 | (with_reducible refine Kd.C_alloc ?_ _) | (with_reducible refine Kd.C_drewN ?_ _) | (with_reducible refine Kd.C_drew ?_))); (case side2 => exact (Kd.R_reads' HO_9.out).2.1); (case side3 => repeat (first | exact (Kd.R_reads' HO_12.out).2.2 | (with_reducible refine Kd.C_alloc ?_ _) | (with_reducible refine Kd.C_drewN ?_ _) | (with_reducible refine Kd.C_drew ?_))); (case side4 => rw [show y202.length = t186.length from (Kd.R_reads' HO_12.out).1.symm]; exact (Kd.R_reads' HO_12.out).2.1); rintro e w67 ⟨rfl, hb⟩; have n0_ := Aside0.mk (Kd.R_below (by (with_reducible repeat (first | apply Kd.R_alloc | apply Kd.R_drewN | apply Kd.R_drew)); exact HO_9.out) hb); have n1_ := Aside0.mk (Kd.R_below (by (with_reducible repeat (first | apply Kd.R_alloc | apply Kd.R_drewN | apply Kd.R_drew)); exact HO_12.out) hb); have n2_ := Aside0.mk (Kd.R_below (by (with_reducible repeat (first | apply Kd.R_alloc | apply Kd.R_drewN | apply Kd.R_drew)); exact HO_14.out) hb); have n3_ := Aside0.mk (blk_below (g := gb178) (o := .cells #[.int .i64 a0_0, .int .i64 a0_1, .int .u64 a0_2, .slice A0_3 l0_3.length c0_3] 25 (0, 0)) (by (with_reducible repeat (first | refine blk_drewN ?_ _ | refine blk_drew ?_ | refine blk_alloc ?_ _)); exact BK178.out) hb); have n4_ := Aside0.mk (below_step bel_ hb); clear HO_9; clear HO_12; clear HO_14; clear BK178; clear HB; have HO_9 := n0_; have HO_12 := n1_; have HO_14 := n2_; have BK178 := n3_; have HB := n4_; clear n0_ n1_ n2_ n3_ n4_; (try clear hb); (try clear hb2); (try clear hk); (try clear hi)) | (go_at_call 25; refine calls_of_args (args' := #[.int .u64 t183, .slice (some ⟨go62, 0, none⟩) y202.length co42]) (by first | (rw [show y202.length = t186.length from (Kd.R_reads' HO_12.out).1.symm] <;> rfl) | rfl) ?_; (with_reducible refine (epicycleref10_Right.calls k3 t183 _ _ y202 t204 _ ?side1 ?side2 A64.out).mono ?_); (case side1 => repeat (first | exact (Kd.R_reads' HO_12.out).2.2 | (with_reducible refine Kd.C_alloc ?_ _) | (with_reducible refine Kd.C_drewN ?_ _) | (with_reducible refine Kd.C_drew ?_))); (case side2 => rw [show y202.length = t186.length from (Kd.R_reads' HO_12.out).1.symm]; exact (Kd.R_reads' HO_12.out).2.1); rintro e w' ⟨rfl, ⟨nd, rfl⟩⟩; (try first | exact ⟨rfl, _, World.drewN_drewN _ _ _⟩ | exact ⟨rfl, _, Eq.trans (World.drewN_drewN _ _ _) (congrArg (World.drewN _) (Nat.add_assoc _ _ _))⟩)))
                go_ret
                exact ⟨by first | rfl | (simp [errW_none, errW_some] <;> rfl) | (simp only [← hji58]; first | rfl | (simp [errW_none, errW_some] <;> rfl)) | (simp [*, errW_none, errW_some] <;> rfl), bel_⟩
              ·rw [if_neg c60] at H
               exact absurd H (by simp)
             ·rw [if_neg c59] at H
              exact absurd H (by simp)
 ·replace c6 := Bool.eq_false_iff.mpr c6
  subst c6
  have H1 := H; rw [if_neg (show ¬ (false = true) by decide)] at H1
  clear H
  have H := H1
  clear H1
  exact absurd H (by simp)
end Go.Proofs.Ythnpjjpdlihepaa.XW
end
section
namespace Go.Proofs.Ythnpjjpdlihepaa.XW
open Go.RowKit Go.Proofs.Ythnpjjpdlihepaa.Given Go.Proofs.Ythnpjjpdlihepaa.Row05 Go.Proofs.Ythnpjjpdlihepaa.XS Go.Proofs.Ythnpjjpdlihepaa.XT Go.Proofs.Ythnpjjpdlihepaa.XR Go.Proofs.Ythnpjjpdlihepaa.F06 Go.Proofs.Ythnpjjpdlihepaa.XK Go.Proofs.YthnpjjpdlihepaaW.PrintWords Go.Proofs.YthnpjjpdlihepaaW.PrintLast Go.Proofs.YthnpjjpdlihepaaW.PrintMore
attribute [local go_sem] max2_int min2_int max_two min_two max_three min_three max_four min_four   -- for this text's walks alone
set_option linter.unusedVariables false
set_option linter.unusedSimpArgs false
end Go.Proofs.Ythnpjjpdlihepaa.XW
end
