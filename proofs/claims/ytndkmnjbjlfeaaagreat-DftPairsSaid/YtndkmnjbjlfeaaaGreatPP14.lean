/- Parts of this claim's texts, packed by wip/tools/prune.py: what the proof does not reach is left out. -/
import Derived.Test.YtndkmnjbjlfeaaaGreatPP13
section
namespace Go.Proofs.YtndkmnjbjlfeaaaGreat.XG
open Go.RowKit Go.Proofs.YtndkmnjbjlfeaaaGreat.Given Go.Proofs.YtndkmnjbjlfeaaaGreat.Row05 Go.Proofs.YtndkmnjbjlfeaaaGreat.XS Go.Proofs.YtndkmnjbjlfeaaaGreat.XT Go.Proofs.YtndkmnjbjlfeaaaGreat.XR Go.Proofs.YtndkmnjbjlfeaaaGreat.F06 Go.Proofs.YtndkmnjbjlfeaaaGreat.XK Go.Proofs.YtndkmnjbjlfeaaaGreat.XW Go.Proofs.YtndkmnjbjlfeaaaGreatW.PrintWords Go.Proofs.YtndkmnjbjlfeaaaGreatW.PrintLast Go.Proofs.YtndkmnjbjlfeaaaGreatW.PrintMore
attribute [local go_sem] max2_int min2_int max_two min_two max_three min_three max_four min_four   -- for this text's walks alone
set_option linter.unusedVariables false
set_option linter.unusedSimpArgs false
mutual
noncomputable def epicyclelaw11_DftPairs.j0 : Nat → List Int → List Int → List (Fld) → Int → Bool → Option (Bool)
 | 0, _, _, _, _, _ => none
 | k + 1, x1, x2, x7, x8, x41 => if x41 = true then (some true) else ((dft_Run.f k x7 x1 false).bind fun bt371 => ((dft_Run.f k x7 x2 false).bind fun bt375 => (if bt371.2 = 0 then (if bt375.2 = 0 then (if (bt371.1.length : Int) = (x1.length : Int) then (epicyclelaw11_DftPairs.j1 k x1 x2 x8 (x1.length : Int) bt371.1 bt375.1 ((bt375.1.length : Int) != (x1.length : Int))) else (epicyclelaw11_DftPairs.j1 k x1 x2 x8 (x1.length : Int) bt371.1 bt375.1 true)) else (epicyclelaw11_DftPairs.j1 k x1 x2 x8 (x1.length : Int) bt371.1 bt375.1 true)) else (epicyclelaw11_DftPairs.j1 k x1 x2 x8 (x1.length : Int) bt371.1 bt375.1 true))))
noncomputable def epicyclelaw11_DftPairs.j1 : Nat → List Int → List Int → Int → Int → List Int → List Int → Bool → Option (Bool)
 | 0, _, _, _, _, _, _, _ => none
 | k + 1, x1, x2, x8, x10, x11, x13, x73 => if x73 = true then (some false) else (epicyclelaw11_DftPairs.l0 k x1 x2 x8 x10 x11 x13 0 0 (x1.length : Int) 0)
noncomputable def epicyclelaw11_DftPairs.l0 : Nat → List Int → List Int → Int → Int → List Int → List Int → Int → Int → Int → Int → Option (Bool)
 | 0, _, _, _, _, _, _, _, _, _, _ => none
 | k + 1, x1, x2, x8, x10, x11, x13, x15, x16, x75, x76 => if x76 < x75 then (if 0 ≤ x76 then (if x76 < (x1.length : Int) then (if x76 < (x2.length : Int) then ((epicycleref02_Mul.f k (rd x1 x76) (rd x2 x76) x8).bind fun t382 => ((epicycleref02_Add.f x15 t382 x8).bind fun t383 => (if x76 < (x11.length : Int) then (if x10 = 0 then (none) else (if 0 ≤ (Int.tmod (wrap64 (x10 - x76)) x10) then (if (Int.tmod (wrap64 (x10 - x76)) x10) < (x13.length : Int) then ((epicycleref02_Mul.f k (rd x11 x76) (rd x13 (Int.tmod (wrap64 (x10 - x76)) x10)) x8).bind fun t386 => ((epicycleref02_Add.f x16 t386 x8).bind fun t387 => (epicyclelaw11_DftPairs.l0 k x1 x2 x8 x10 x11 x13 t383 t387 x75 (wrap64 (x76 + 1))))) else (none)) else (none))) else (none)))) else (none)) else (none)) else (none)) else ((epicycleref02_Mul.f k x15 (IntKind.u64.wrap (x10)) x8).bind fun t379 => (some (x16 == t379)))
end
noncomputable def epicyclelaw11_DftPairs.f (k : Nat) (a0_0 : Int) (a0_1 : Int) (a0_2 : Int) (l0_3 : List (S134)) (l1 : List Int) (l2 : List Int) : Option (Bool) := (epicyclelaw11_alive.f k).bind fun t364 => (if t364 = true then ((epicyclelaw11_fit.f k a0_0 a0_1 a0_2 l0_3 l1 64).bind fun bt365 => (if bt365.2.2 = true then (if (l2.length : Int) = (l1.length : Int) then ((epicycleref11_Good.f k bt365.2.1 l2).bind fun t370 => (epicyclelaw11_DftPairs.j0 k l1 l2 bt365.1 bt365.2.1 (!t370))) else (epicyclelaw11_DftPairs.j0 k l1 l2 bt365.1 bt365.2.1 true)) else (epicyclelaw11_DftPairs.j0 k l1 l2 bt365.1 bt365.2.1 true))) else (some false))
set_option maxHeartbeats 8000000 in
set_option maxRecDepth 100000 in
theorem epicyclelaw11_DftPairs.calls (k : Nat) (a0_0 : Int) (a0_1 : Int) (a0_2 : Int) (A0_3 : Option Addr) (c0_3 : Nat) (l0_3 : List (S134)) (A1 : Option Addr) (c1 : Nat) (l1 : List Int) (A2 : Option Addr) (c2 : Nat) (l2 : List Int) (w : World) (hr0_3 : Kd.C k134 w A0_3 l0_3.length l0_3) (hc0_3 : l0_3.length ≤ c0_3) (hr1 : Kd.C (Kd.int .u64) w A1 l1.length l1) (hc1 : l1.length ≤ c1) (hr2 : Kd.C (Kd.int .u64) w A2 l2.length l2) (hc2 : l2.length ≤ c2) (h : epicyclelaw11_DftPairs.f k a0_0 a0_1 a0_2 l0_3 l1 l2 = some true) :
  Calls Tryz.prog 9 #[.agg #[.int .i64 a0_0, .int .i64 a0_1, .int .u64 a0_2, .slice A0_3 l0_3.length c0_3], .slice A1 l1.length c1, .slice A2 l2.length c2] w fun e w' => e = .returned (.bool true) ∧ Below w.heap.size w w' := by
 have hu25 := Tryz.underlying25
 have HR0_3 := Aside0.mk hr0_3
 have HC0_3 := Aside0.mk hc0_3
 clear hr0_3 hc0_3
 have HR1 := Aside0.mk hr1
 have HC1 := Aside0.mk hc1
 clear hr1 hc1
 have HR2 := Aside0.mk hr2
 have HC2 := Aside0.mk hc2
 clear hr2 hc2
 have HB := Aside0.mk (Below.refl w.heap.size w)
 have H := h; unfold epicyclelaw11_DftPairs.f at H
 clear h
 replace H := Option.bind_eq_some_iff.mp H
 obtain ⟨t364, A40, H⟩ := H
 (try dsimp only at H)
 have A4 := Aside0.mk A40
 clear A40
 by_cases c5 : t364 = true
 ·subst c5
  have H1 := H; rw [if_pos rfl] at H1
  clear H
  have H := H1
  clear H1
  replace H := Option.bind_eq_some_iff.mp H
  obtain ⟨⟨t365, t368, t369⟩, A60, H⟩ := H
  (try dsimp only at H)
  have A6 := Aside0.mk A60
  clear A60
  have HC7 := Aside0.mk H
  clear H
  go_enter Tryz.func9, Tryz.ntmps9
  go_upto_region 4 with (first | ((with_reducible refine gate_dst (N := 3) rfl ?_); (try (refine gate_guard (by rfl) ?_; dsimp only)); refine box_event ?hg (N := 3) ?hd (cs := #[.int .i64 a0_0, .int .i64 a0_1, .int .u64 a0_2, .slice A0_3 l0_3.length c0_3]) (t := 25) ?hr ?_; (case hd => rfl); (case hg => rfl); (case hr => first | (go_simp; done) | (go_simp; rfl)); intro gb363 hg w8 hbox hb; have n0_ := Aside0.mk (below_step bel_ hb); have n1_ := Aside0.mk (hbox); have n2_ := Aside0.mk ((by rw [hg]; exact (below_size bel_) : w.heap.size ≤ gb363)); have n3_ := Aside0.mk ((by rw [hg]; exact (below_size bel_) : w.heap.size ≤ gb363)); clear HB; have HB := n0_; have BK363 := n1_; have GW363 := n2_; have GE363 := n3_; clear n0_ n1_ n2_ n3_; clear hb hbox hg) | (go_at_call 16; (with_reducible refine (epicyclelaw11_alive.calls k  true _ A4.out).mono ?_); rintro e w9 ⟨rfl, hb⟩; have n0_ := Aside0.mk (blk_below (g := gb363) (o := .cells #[.int .i64 a0_0, .int .i64 a0_1, .int .u64 a0_2, .slice A0_3 l0_3.length c0_3] 25 (0, 0)) (by (with_reducible repeat (first | refine blk_drewN ?_ _ | refine blk_drew ?_ | refine blk_alloc ?_ _)); exact BK363.out) hb); have n1_ := Aside0.mk (below_step bel_ hb); clear BK363; clear HB; have BK363 := n0_; have HB := n1_; clear n0_ n1_; (try clear hb); (try clear hb2); (try clear hk); (try clear hi); have hcz10_0 : w9.cell? ⟨gb363, 0, none⟩ = some (.int .i64 a0_0) := (blk_cell BK363.out 0).trans rfl; have hcz10_1 : w9.cell? ⟨gb363, 1, none⟩ = some (.int .i64 a0_1) := (blk_cell BK363.out 1).trans rfl; have hcz10_2 : w9.cell? ⟨gb363, 2, none⟩ = some (.int .u64 a0_2) := (blk_cell BK363.out 2).trans rfl; have hcz10_3 : w9.cell? ⟨gb363, 3, none⟩ = some (.slice A0_3 l0_3.length c0_3) := (blk_cell BK363.out 3).trans rfl; have hfz10_0 := blk_frozen BK363.out 0; have hfz10_1 := blk_frozen BK363.out 1; have hfz10_2 := blk_frozen BK363.out 2; have hfz10_3 := blk_frozen BK363.out 3) | (go_at_call 27; (with_reducible refine (epicyclelaw11_fit.calls k a0_0 a0_1 a0_2 _ _ l0_3 _ _ l1 64 t365 t368 t369 _ ?side1 ?side2 ?side3 ?side4 A6.out).mono ?_); (case side1 => repeat (first | exact (Kd.C_below HR0_3.out HB.out) | (with_reducible refine Kd.C_alloc ?_ _) | (with_reducible refine Kd.C_drewN ?_ _) | (with_reducible refine Kd.C_drew ?_))); (case side2 => exact HC0_3.out); (case side3 => repeat (first | exact (Kd.C_below HR1.out HB.out) | (with_reducible refine Kd.C_alloc ?_ _) | (with_reducible refine Kd.C_drewN ?_ _) | (with_reducible refine Kd.C_drew ?_))); (case side4 => exact HC1.out); rintro e w11 ⟨v366, rfl, ho0, hb⟩; have n0_ := Aside0.mk (Kd.R_lower ho0 (below_size bel_)); have n1_ := Aside0.mk (blk_below (g := gb363) (o := .cells #[.int .i64 a0_0, .int .i64 a0_1, .int .u64 a0_2, .slice A0_3 l0_3.length c0_3] 25 (0, 0)) (by (with_reducible repeat (first | refine blk_drewN ?_ _ | refine blk_drew ?_ | refine blk_alloc ?_ _)); exact BK363.out) hb); have n2_ := Aside0.mk (below_step bel_ hb); clear BK363; clear HB; have HO367 := n0_; have BK363 := n1_; have HB := n2_; clear n0_ n1_ n2_; (try clear hb); (try clear hb2); (try clear hk); (try clear hi); (try clear ho0)))
  (try simp only [Act.put, List.setIfInBounds_toArray, List.set_cons_zero, List.set_cons_succ])
  go_cut [41] (fun v41 wc => ∃ (kq : Nat) (x41_6 : Bool), v41 = .bool x41_6 ∧ Aside0 (epicyclelaw11_DftPairs.j0 kq l1 l2 t365 t368 x41_6 = some true) ∧ Aside0 (kq ≤ k) ∧ Aside0 (Kd.R kFld 97 wc w.heap.size (fun _ => True) v366 t365) ∧ Aside0 (wc.heap[gb363]? = some (.cells #[.int .i64 a0_0, .int .i64 a0_1, .int .u64 a0_2, (.slice A0_3 l0_3.length c0_3)] 25 (0, 0))) ∧ Aside0 (Below w.heap.size w wc))
  case first =>
   have H := HC7.out
   clear HC7
   by_cases c12 : t369 = true
   ·subst c12
    have H1 := H; rw [if_pos rfl] at H1
    clear H
    have H := H1
    clear H1
    by_cases c13 : (l2.length : Int) = (l1.length : Int)
    ·rw [if_pos c13] at H
     have c13b0 := beq_iff_eq.mpr c13
     have c13b1 := bne_eq_false_iff_eq.mpr c13
     have c13b2 : (l2.length == l1.length) = true := by first | simpa using c13 | (simp at c13 ⊢; omega)
     clear c13
     (first | rw [c13b0] | (simp only [i64_w, i32_w]; rw [c13b0]) | skip)
     replace H := Option.bind_eq_some_iff.mp H
     obtain ⟨t370, A140, H⟩ := H
     (try dsimp only at H)
     have A14 := Aside0.mk A140
     clear A140
     have H' := Aside0.mk H
     clear H
     go_wp2_with (first | (go_at_call 21; (with_reducible refine (epicycleref11_Good.calls k t368 _ _ l2 t370 _ ?side1 ?side2 A14.out).mono ?_); (case side1 => repeat (first | exact (Kd.C_below HR2.out HB.out) | (with_reducible refine Kd.C_alloc ?_ _) | (with_reducible refine Kd.C_drewN ?_ _) | (with_reducible refine Kd.C_drew ?_))); (case side2 => exact HC2.out); rintro e w' ⟨rfl, ⟨nd, rfl⟩⟩; (try first | exact ⟨rfl, _, World.drewN_drewN _ _ _⟩ | exact ⟨rfl, _, Eq.trans (World.drewN_drewN _ _ _) (congrArg (World.drewN _) (Nat.add_assoc _ _ _))⟩)))
     go_meet
     case rel => exact ⟨_, (!t370), (by first | rfl | (simp; done) | (simp [*]; done)), H', ⟨by first | omega | exact Nat.le_refl _⟩, ⟨by (with_reducible repeat (first | apply Kd.R_alloc | apply Kd.R_drewN | apply Kd.R_drew)); exact HO367.out⟩, ⟨by (with_reducible repeat (first | refine blk_drewN ?_ _ | refine blk_drew ?_ | refine blk_alloc ?_ _)); exact BK363.out⟩, ⟨bel_⟩⟩
    ·rw [if_neg c13] at H
     have c13b0 := beq_eq_false_iff_ne.mpr c13
     have c13b1 := bne_iff_ne.mpr c13
     have c13b2 : (l2.length == l1.length) = false := by first | simpa using c13 | (simp at c13 ⊢; omega)
     (first | rw [c13b0] | (simp only [i64_w, i32_w]; rw [c13b0]) | skip)
     have H' := Aside0.mk H
     clear H
     go_wp2
     go_meet
     case rel => exact ⟨_, (true), (by first | rfl | (simp; done) | (simp [*]; done)), H', ⟨by first | omega | exact Nat.le_refl _⟩, ⟨by (with_reducible repeat (first | apply Kd.R_alloc | apply Kd.R_drewN | apply Kd.R_drew)); exact HO367.out⟩, ⟨by (with_reducible repeat (first | refine blk_drewN ?_ _ | refine blk_drew ?_ | refine blk_alloc ?_ _)); exact BK363.out⟩, ⟨bel_⟩⟩
   ·replace c12 := Bool.eq_false_iff.mpr c12
    subst c12
    have H1 := H; rw [if_neg (show ¬ (false = true) by decide)] at H1
    clear H
    have H := H1
    clear H1
    have H' := Aside0.mk H
    clear H
    go_wp2
    go_meet
    case rel => exact ⟨_, (true), (by first | rfl | (simp; done) | (simp [*]; done)), H', ⟨by first | omega | exact Nat.le_refl _⟩, ⟨by (with_reducible repeat (first | apply Kd.R_alloc | apply Kd.R_drewN | apply Kd.R_drew)); exact HO367.out⟩, ⟨by (with_reducible repeat (first | refine blk_drewN ?_ _ | refine blk_drew ?_ | refine blk_alloc ?_ _)); exact BK363.out⟩, ⟨bel_⟩⟩
  case rest =>
   clear HC7
   try clear c1
   try clear c2
   try clear p2
   try clear c5
   try clear c9
   try clear c12
   try clear c13
   try clear c13b0
   try clear c13b1
   try clear c13b2
   try clear hcz10_0
   try clear hcz10_1
   try clear hcz10_2
   try clear hcz10_3
   try clear hfz10_0
   try clear hfz10_1
   try clear hfz10_2
   try clear hfz10_3
   obtain ⟨kq, x41_6, rfl, HA, HJ6, HO_7, BK363, HB⟩ := hcut
   cases kq with
   | zero => exact absurd HA.out (by simp [epicyclelaw11_DftPairs.j0])
   | succ kj6 =>
    have H := HA.out
    clear HA
    simp only [epicyclelaw11_DftPairs.j0] at H
    by_cases c15 : x41_6 = true
    ·subst c15
     have H1 := H; rw [if_pos rfl] at H1
     clear H
     have H := H1
     clear H1
     clear H
     go_wp2
     go_ret
     exact ⟨by first | rfl | (simp [errW_none, errW_some] <;> rfl) | (simp [*, errW_none, errW_some] <;> rfl), bel_⟩
    ·replace c15 := Bool.eq_false_iff.mpr c15
     subst c15
     have H1 := H; rw [if_neg (show ¬ (false = true) by decide)] at H1
     clear H
     have H := H1
     clear H1
     replace H := Option.bind_eq_some_iff.mp H
     obtain ⟨⟨t371, t372⟩, A160, H⟩ := H
     (try dsimp only at H)
     have A16 := Aside0.mk A160
     clear A160
     replace H := Option.bind_eq_some_iff.mp H
     obtain ⟨⟨t375, t376⟩, A170, H⟩ := H
     (try dsimp only at H)
     have A17 := Aside0.mk A170
     clear A170
     have HC18 := Aside0.mk H
     clear H
     obtain ⟨Ao19, co19, eo19⟩ := Kd.R_slice HO_7.out
     subst eo19
     go_upto_region 9 with (first | (go_at_call 18; (try rw [← hT_HO_7]); (with_reducible refine (dft_Run.calls kj6 _ _ t365 _ _ l1 false t371 t372 _ ?side1 ?side2 ?side3 ?side4 A16.out).mono ?_); (case side1 => repeat (first | exact (Kd.R_reads' HO_7.out).2.2 | (with_reducible refine Kd.C_alloc ?_ _) | (with_reducible refine Kd.C_drewN ?_ _) | (with_reducible refine Kd.C_drew ?_))); (case side2 => exact (Kd.R_reads' HO_7.out).2.1); (case side3 => repeat (first | exact (Kd.C_below HR1.out HB.out) | (with_reducible refine Kd.C_alloc ?_ _) | (with_reducible refine Kd.C_drewN ?_ _) | (with_reducible refine Kd.C_drew ?_))); (case side4 => exact HC1.out); rintro e w20 ⟨v373, rfl, ho0, hb⟩; have n0_ := Aside0.mk (Kd.R_below (by (with_reducible repeat (first | apply Kd.R_alloc | apply Kd.R_drewN | apply Kd.R_drew)); exact HO_7.out) hb); have n1_ := Aside0.mk (Kd.R_lower ho0 (below_size bel_)); have n2_ := Aside0.mk (blk_below (g := gb363) (o := .cells #[.int .i64 a0_0, .int .i64 a0_1, .int .u64 a0_2, .slice A0_3 l0_3.length c0_3] 25 (0, 0)) (by (with_reducible repeat (first | refine blk_drewN ?_ _ | refine blk_drew ?_ | refine blk_alloc ?_ _)); exact BK363.out) hb); have n3_ := Aside0.mk (below_step bel_ hb); clear HO_7; clear BK363; clear HB; have HO_7 := n0_; have HO374 := n1_; have BK363 := n2_; have HB := n3_; clear n0_ n1_ n2_ n3_; (try clear hb); (try clear hb2); (try clear hk); (try clear hi); (try clear ho0)) | (go_at_call 18; (try rw [← hT_HO_7]); (with_reducible refine (dft_Run.calls kj6 _ _ t365 _ _ l2 false t375 t376 _ ?side1 ?side2 ?side3 ?side4 A17.out).mono ?_); (case side1 => repeat (first | exact (Kd.R_reads' HO_7.out).2.2 | (with_reducible refine Kd.C_alloc ?_ _) | (with_reducible refine Kd.C_drewN ?_ _) | (with_reducible refine Kd.C_drew ?_))); (case side2 => exact (Kd.R_reads' HO_7.out).2.1); (case side3 => repeat (first | exact (Kd.C_below HR2.out HB.out) | (with_reducible refine Kd.C_alloc ?_ _) | (with_reducible refine Kd.C_drewN ?_ _) | (with_reducible refine Kd.C_drew ?_))); (case side4 => exact HC2.out); rintro e w21 ⟨v377, rfl, ho0, hb⟩; have n0_ := Aside0.mk (Kd.R_below (by (with_reducible repeat (first | apply Kd.R_alloc | apply Kd.R_drewN | apply Kd.R_drew)); exact HO_7.out) hb); have n1_ := Aside0.mk (Kd.R_elder' (by (with_reducible repeat (first | apply Kd.R_alloc | apply Kd.R_drewN | apply Kd.R_drew)); exact HO374.out) (Kd.R_base ho0) hb); have n2_ := Aside0.mk (Kd.R_lower (Kd.R_new' ho0 (Kd.R_lt (by (with_reducible repeat (first | apply Kd.R_alloc | apply Kd.R_drewN | apply Kd.R_drew)); exact HO374.out))) (below_size bel_)); have n3_ := Aside0.mk (blk_below (g := gb363) (o := .cells #[.int .i64 a0_0, .int .i64 a0_1, .int .u64 a0_2, .slice A0_3 l0_3.length c0_3] 25 (0, 0)) (by (with_reducible repeat (first | refine blk_drewN ?_ _ | refine blk_drew ?_ | refine blk_alloc ?_ _)); exact BK363.out) hb); have n4_ := Aside0.mk (below_step bel_ hb); clear HO_7; clear HO374; clear BK363; clear HB; have HO_7 := n0_; have HO374 := n1_; have HO378 := n2_; have BK363 := n3_; have HB := n4_; clear n0_ n1_ n2_ n3_ n4_; (try clear hb); (try clear hb2); (try clear hk); (try clear hi); (try clear ho0)))
     (try simp only [Act.put, List.setIfInBounds_toArray, List.set_cons_zero, List.set_cons_succ])
     go_cut [73] (fun v73 wc => ∃ (kq : Nat) (x73_17 : Bool), v73 = .bool x73_17 ∧ Aside0 (epicyclelaw11_DftPairs.j1 kq l1 l2 t368 (l1.length : Int) t371 t375 x73_17 = some true) ∧ Aside0 (kq ≤ kj6) ∧ Aside0 (Kd.R (Kd.int .u64) 22 wc w.heap.size (fun k_ => some k_ ≠ (v377 : Value).ownBlock) v373 t371) ∧ Aside0 (Kd.R (Kd.int .u64) 22 wc w.heap.size (fun k_ => some k_ ≠ (v373 : Value).ownBlock) v377 t375) ∧ Aside0 (wc.heap[gb363]? = some (.cells #[.int .i64 a0_0, .int .i64 a0_1, .int .u64 a0_2, (.slice A0_3 l0_3.length c0_3)] 25 (0, 0))) ∧ Aside0 (Below w.heap.size w wc))
     case first =>
      have H := HC18.out
      clear HC18
      by_cases c22 : t372 = 0
      ·rw [if_pos c22] at H
       have c22b0 := beq_iff_eq.mpr c22
       have c22b1 := bne_eq_false_iff_eq.mpr c22
       clear c22
       (first | rw [c22b0] | (simp only [i64_w, i32_w]; rw [c22b0]) | skip)
       by_cases c23 : t376 = 0
       ·rw [if_pos c23] at H
        have c23b0 := beq_iff_eq.mpr c23
        have c23b1 := bne_eq_false_iff_eq.mpr c23
        clear c23
        by_cases c24 : (t371.length : Int) = (l1.length : Int)
        ·rw [if_pos c24] at H
         have c24b0 := beq_iff_eq.mpr c24
         have c24b1 := bne_eq_false_iff_eq.mpr c24
         have c24b2 : (t371.length == l1.length) = true := by first | simpa using c24 | (simp at c24 ⊢; omega)
         clear c24
         have H' := Aside0.mk H
         clear H
         obtain ⟨Ao25, co25, eo25⟩ := Kd.R_slice HO374.out
         subst eo25
         obtain ⟨Ao26, co26, eo26⟩ := Kd.R_slice HO378.out
         subst eo26
         go_wp2
         go_meet
         case rel => exact ⟨_, (((t375.length : Int) != (l1.length : Int))), (by first | rfl | (simp; done) | (simp [*]; done)), H', ⟨by have := HJ6.out; first | omega | exact Nat.le_refl _⟩, ⟨by (with_reducible repeat (first | apply Kd.R_alloc | apply Kd.R_drewN | apply Kd.R_drew)); exact Kd.R_mono HO374.out (fun _ hk => hk.2)⟩, ⟨by (with_reducible repeat (first | apply Kd.R_alloc | apply Kd.R_drewN | apply Kd.R_drew)); exact Kd.R_mono HO378.out (fun _ hk => hk.2)⟩, ⟨by (with_reducible repeat (first | refine blk_drewN ?_ _ | refine blk_drew ?_ | refine blk_alloc ?_ _)); exact BK363.out⟩, ⟨bel_⟩⟩
        ·rw [if_neg c24] at H
         have c24b0 := beq_eq_false_iff_ne.mpr c24
         have c24b1 := bne_iff_ne.mpr c24
         have c24b2 : (t371.length == l1.length) = false := by first | simpa using c24 | (simp at c24 ⊢; omega)
         have H' := Aside0.mk H
         clear H
         obtain ⟨Ao27, co27, eo27⟩ := Kd.R_slice HO374.out
         subst eo27
         go_wp2
         go_meet
         case rel => exact ⟨_, (true), (by first | rfl | (simp; done) | (simp [*]; done)), H', ⟨by have := HJ6.out; first | omega | exact Nat.le_refl _⟩, ⟨by (with_reducible repeat (first | apply Kd.R_alloc | apply Kd.R_drewN | apply Kd.R_drew)); exact Kd.R_mono HO374.out (fun _ hk => hk.2)⟩, ⟨by (with_reducible repeat (first | apply Kd.R_alloc | apply Kd.R_drewN | apply Kd.R_drew)); exact Kd.R_mono HO378.out (fun _ hk => hk.2)⟩, ⟨by (with_reducible repeat (first | refine blk_drewN ?_ _ | refine blk_drew ?_ | refine blk_alloc ?_ _)); exact BK363.out⟩, ⟨bel_⟩⟩
       ·rw [if_neg c23] at H
        have c23b0 := beq_eq_false_iff_ne.mpr c23
        have c23b1 := bne_iff_ne.mpr c23
        have H' := Aside0.mk H
        clear H
        go_wp2
        go_meet
        case rel => exact ⟨_, (true), (by first | rfl | (simp; done) | (simp [*]; done)), H', ⟨by have := HJ6.out; first | omega | exact Nat.le_refl _⟩, ⟨by (with_reducible repeat (first | apply Kd.R_alloc | apply Kd.R_drewN | apply Kd.R_drew)); exact Kd.R_mono HO374.out (fun _ hk => hk.2)⟩, ⟨by (with_reducible repeat (first | apply Kd.R_alloc | apply Kd.R_drewN | apply Kd.R_drew)); exact Kd.R_mono HO378.out (fun _ hk => hk.2)⟩, ⟨by (with_reducible repeat (first | refine blk_drewN ?_ _ | refine blk_drew ?_ | refine blk_alloc ?_ _)); exact BK363.out⟩, ⟨bel_⟩⟩
      ·rw [if_neg c22] at H
       have c22b0 := beq_eq_false_iff_ne.mpr c22
       have c22b1 := bne_iff_ne.mpr c22
       (first | rw [c22b0] | (simp only [i64_w, i32_w]; rw [c22b0]) | skip)
       have H' := Aside0.mk H
       clear H
       go_wp2
       go_meet
       case rel => exact ⟨_, (true), (by first | rfl | (simp; done) | (simp [*]; done)), H', ⟨by have := HJ6.out; first | omega | exact Nat.le_refl _⟩, ⟨by (with_reducible repeat (first | apply Kd.R_alloc | apply Kd.R_drewN | apply Kd.R_drew)); exact Kd.R_mono HO374.out (fun _ hk => hk.2)⟩, ⟨by (with_reducible repeat (first | apply Kd.R_alloc | apply Kd.R_drewN | apply Kd.R_drew)); exact Kd.R_mono HO378.out (fun _ hk => hk.2)⟩, ⟨by (with_reducible repeat (first | refine blk_drewN ?_ _ | refine blk_drew ?_ | refine blk_alloc ?_ _)); exact BK363.out⟩, ⟨bel_⟩⟩
     case rest =>
      clear HC18
      try clear c1
      try clear c2
      try clear p2
      try clear c5
      try clear c9
      try clear c12
      try clear c13
      try clear c13b0
      try clear c13b1
      try clear c13b2
      try clear c15
      try clear c22
      try clear c22b0
      try clear c22b1
      try clear c23
      try clear c23b0
      try clear c23b1
      try clear c24
      try clear c24b0
      try clear c24b1
      try clear c24b2
      try clear hcz10_0
      try clear hcz10_1
      try clear hcz10_2
      try clear hcz10_3
      try clear hfz10_0
      try clear hfz10_1
      try clear hfz10_2
      try clear hfz10_3
      try clear p2
      obtain ⟨kq, x73_17, rfl, HA, HJ17, HO_11, HO_13, BK363, HB⟩ := hcut
      cases kq with
      | zero => exact absurd HA.out (by simp [epicyclelaw11_DftPairs.j1])
      | succ kj17 =>
       have H := HA.out
       clear HA
       simp only [epicyclelaw11_DftPairs.j1] at H
       by_cases c28 : x73_17 = true
       ·subst c28
        have H1 := H; rw [if_pos rfl] at H1
        clear H
        have H := H1
        clear H1
        exact absurd H (by simp)
       ·replace c28 := Bool.eq_false_iff.mpr c28
        subst c28
        have H1 := H; rw [if_neg (show ¬ (false = true) by decide)] at H1
        clear H
        have H := H1
        clear H1
        have H' := Aside0.mk H
        clear H
        go_wp2
        go_loopg [15, 16, 76] kj17 (fun kq v15 v16 v76 w' => ∃ (x15_3 : Int) (x16_3 : Int) (x76_3 : Int), v15 = .int .u64 x15_3 ∧ v16 = .int .u64 x16_3 ∧ v76 = .int .i64 x76_3 ∧ Aside0 (epicyclelaw11_DftPairs.l0 kq l1 l2 t368 (l1.length : Int) t371 t375 x15_3 x16_3 (l1.length : Int) x76_3 = some true) ∧ Aside0 (kq ≤ kj17) ∧ Aside0 (Kd.R (Kd.int .u64) 22 w' w.heap.size (fun k_ => some k_ ≠ (v377 : Value).ownBlock) v373 t371) ∧ Aside0 (Kd.R (Kd.int .u64) 22 w' w.heap.size (fun k_ => some k_ ≠ (v373 : Value).ownBlock) v377 t375) ∧ Aside0 (w'.heap[gb363]? = some (.cells #[.int .i64 a0_0, .int .i64 a0_1, .int .u64 a0_2, (.slice A0_3 l0_3.length c0_3)] 25 (0, 0))) ∧ Aside0 (Below w.heap.size w w'))
        case atStart => exact ⟨(0), (0), (0), (by first | rfl | (simp; done) | (simp [*]; done)), (by first | rfl | (simp; done) | (simp [*]; done)), (by first | rfl | (simp; done) | (simp [*]; done)), H', ⟨Nat.le_refl _⟩, ⟨by (with_reducible repeat (first | apply Kd.R_alloc | apply Kd.R_drewN | apply Kd.R_drew)); exact HO_11.out⟩, ⟨by (with_reducible repeat (first | apply Kd.R_alloc | apply Kd.R_drewN | apply Kd.R_drew)); exact HO_13.out⟩, ⟨by (with_reducible repeat (first | refine blk_drewN ?_ _ | refine blk_drew ?_ | refine blk_alloc ?_ _)); exact BK363.out⟩, ⟨bel_⟩⟩
        case round =>
         clear H'
         try clear c1
         try clear c2
         try clear p2
         try clear c5
         try clear c9
         try clear c12
         try clear c13
         try clear c13b0
         try clear c13b1
         try clear c13b2
         try clear c15
         try clear c22
         try clear c22b0
         try clear c22b1
         try clear c23
         try clear c23b0
         try clear c23b1
         try clear c24
         try clear c24b0
         try clear c24b1
         try clear c24b2
         try clear c28
         try clear hcz10_0
         try clear hcz10_1
         try clear hcz10_2
         try clear hcz10_3
         try clear hfz10_0
         try clear hfz10_1
         try clear hfz10_2
         try clear hfz10_3
         try clear p2
         obtain ⟨x15_3, x16_3, x76_3, rfl, rfl, rfl, HA, HK3, HO_11, HO_13, BK363, HB⟩ := hrel
         cases gk with
         | zero => exact absurd HA.out (by simp [epicyclelaw11_DftPairs.l0])
         | succ k3 =>
          have H := HA.out
          clear HA
          simp only [epicyclelaw11_DftPairs.l0] at H
          by_cases c29 : x76_3 < (l1.length : Int)
          ·rw [if_pos c29] at H
           have c29b0 := decide_eq_true c29
           clear c29
           by_cases c30 : 0 ≤ x76_3
           ·rw [if_pos c30] at H
            have c30b0 := decide_eq_true c30
            clear c30
            by_cases c31 : x76_3 < (l1.length : Int)
            ·rw [if_pos c31] at H
             have c31b0 := decide_eq_true c31
             clear c31
             by_cases c32 : x76_3 < (l2.length : Int)
             ·rw [if_pos c32] at H
              have c32b0 := decide_eq_true c32
              clear c32
              replace H := Option.bind_eq_some_iff.mp H
              obtain ⟨t382, A330, H⟩ := H
              (try dsimp only at H)
              have A33 := Aside0.mk A330
              clear A330
              replace H := Option.bind_eq_some_iff.mp H
              obtain ⟨t383, A340, H⟩ := H
              (try dsimp only at H)
              have A34 := Aside0.mk A340
              clear A340
              by_cases c35 : x76_3 < (t371.length : Int)
              ·rw [if_pos c35] at H
               have c35b0 := decide_eq_true c35
               clear c35
               by_cases c36 : (l1.length : Int) = 0
               ·rw [if_pos c36] at H
                exact absurd H (by simp)
               ·rw [if_neg c36] at H
                have c36b0 := beq_eq_false_iff_ne.mpr c36
                have c36b1 := bne_iff_ne.mpr c36
                have c36b2 : ¬ (l1 = []) := fun h_ => c36 (by rw [h_]; rfl)
                obtain ⟨ji37, hji37⟩ : ∃ j_ : Int, (Int.tmod (wrap64 ((l1.length : Int) - x76_3)) (l1.length : Int)) = j_ := ⟨_, rfl⟩
                (first | rw [hji37] at H | simp only [hji37] at H)
                (try rw [hji37] at A33)
                (try rw [hji37] at A34)
                have hji37v : (Int.tmod (IntKind.i64.wrap ((l1.length : Int) - x76_3)) (l1.length : Int)) = ji37 := by simp only [i64_w]; exact hji37
                by_cases c38 : 0 ≤ (ji37)
                ·rw [if_pos c38] at H
                 have c38b0 := decide_eq_true c38
                 clear c38
                 by_cases c39 : (ji37) < (t375.length : Int)
                 ·rw [if_pos c39] at H
                  have c39b0 := decide_eq_true c39
                  clear c39
                  replace H := Option.bind_eq_some_iff.mp H
                  obtain ⟨t386, A400, H⟩ := H
                  (try dsimp only at H)
                  have A40 := Aside0.mk A400
                  clear A400
                  replace H := Option.bind_eq_some_iff.mp H
                  obtain ⟨t387, A410, H⟩ := H
                  (try dsimp only at H)
                  have A41 := Aside0.mk A410
                  clear A410
                  have H' := Aside0.mk H
                  clear H
                  have p380 : 0 ≤ (x76_3 : Int) := of_decide_eq_true (by assumption)
                  have q380 : x76_3 < (l1.length : Int) := of_decide_eq_true (by assumption)
                  obtain ⟨ad380, e380, hx380_0⟩ := Kd.at_int HR1.out x76_3 p380 q380
                  cases e380
                  replace hx380_0 := (HB.out.cell (World.block_lt_of_cell? w _ hx380_0)).trans hx380_0
                  replace p380 := eq_true p380
                  replace q380 := eq_true q380
                  have p381 : 0 ≤ (x76_3 : Int) := of_decide_eq_true (by assumption)
                  have q381 : x76_3 < (l2.length : Int) := of_decide_eq_true (by assumption)
                  obtain ⟨ad381, e381, hx381_0⟩ := Kd.at_int HR2.out x76_3 p381 q381
                  cases e381
                  replace hx381_0 := (HB.out.cell (World.block_lt_of_cell? w _ hx381_0)).trans hx381_0
                  replace p381 := eq_true p381
                  replace q381 := eq_true q381
                  go_wp2_with (first | (go_at_call 26; (with_reducible refine (epicycleref02_Mul.calls k3 (rd l1 x76_3) (rd l2 x76_3) t368 t382 _ A33.out).mono ?_); rintro e w' ⟨rfl, ⟨nd, rfl⟩⟩; (try first | exact ⟨rfl, _, World.drewN_drewN _ _ _⟩ | exact ⟨rfl, _, Eq.trans (World.drewN_drewN _ _ _) (congrArg (World.drewN _) (Nat.add_assoc _ _ _))⟩)) | (go_at_call 28; (with_reducible refine (epicycleref02_Add.calls x15_3 t382 t368 t383 _ A34.out).mono ?_); rintro e w' ⟨rfl, ⟨nd, rfl⟩⟩; (try first | exact ⟨rfl, _, World.drewN_drewN _ _ _⟩ | exact ⟨rfl, _, Eq.trans (World.drewN_drewN _ _ _) (congrArg (World.drewN _) (Nat.add_assoc _ _ _))⟩); obtain ⟨Ao42, co42, eo42⟩ := Kd.R_slice HO_11.out; subst eo42; have p384 : 0 ≤ (x76_3 : Int) := of_decide_eq_true (by assumption); have q384 : x76_3 < (t371.length : Int) := of_decide_eq_true (by assumption); obtain ⟨ad384, e384, hx384_0⟩ := Kd.at_int (Kd.R_reads' HO_11.out).2.2 x76_3 p384 q384; cases e384; replace p384 := eq_true p384; replace q384 := eq_true q384; obtain ⟨Ao43, co43, eo43⟩ := Kd.R_slice HO_13.out; subst eo43; have p385 : 0 ≤ ((ji37) : Int) := of_decide_eq_true (by assumption); have q385 : (ji37) < (t375.length : Int) := of_decide_eq_true (by assumption); obtain ⟨ad385, e385, hx385_0⟩ := Kd.at_int (Kd.R_reads' HO_13.out).2.2 (ji37) p385 q385; cases e385; replace p385 := eq_true p385; replace q385 := eq_true q385) | (go_at_call 26; (with_reducible refine (epicycleref02_Mul.calls k3 (rd t371 x76_3) (rd t375 (ji37)) t368 t386 _ A40.out).mono ?_); rintro e w' ⟨rfl, ⟨nd, rfl⟩⟩; (try first | exact ⟨rfl, _, World.drewN_drewN _ _ _⟩ | exact ⟨rfl, _, Eq.trans (World.drewN_drewN _ _ _) (congrArg (World.drewN _) (Nat.add_assoc _ _ _))⟩)) | (go_at_call 28; (with_reducible refine (epicycleref02_Add.calls x16_3 t386 t368 t387 _ A41.out).mono ?_); rintro e w' ⟨rfl, ⟨nd, rfl⟩⟩; (try first | exact ⟨rfl, _, World.drewN_drewN _ _ _⟩ | exact ⟨rfl, _, Eq.trans (World.drewN_drewN _ _ _) (congrArg (World.drewN _) (Nat.add_assoc _ _ _))⟩)))
                  repeat (go_quiet (first | (go_at_call 26; (with_reducible refine (epicycleref02_Mul.calls k3 (rd l1 x76_3) (rd l2 x76_3) t368 t382 _ A33.out).mono ?_); rintro e w' ⟨rfl, ⟨nd, rfl⟩⟩; (try first | exact ⟨rfl, _, World.drewN_drewN _ _ _⟩ | exact ⟨rfl, _, Eq.trans (World.drewN_drewN _ _ _) (congrArg (World.drewN _) (Nat.add_assoc _ _ _))⟩)) | (go_at_call 28; (with_reducible refine (epicycleref02_Add.calls x15_3 t382 t368 t383 _ A34.out).mono ?_); rintro e w' ⟨rfl, ⟨nd, rfl⟩⟩; (try first | exact ⟨rfl, _, World.drewN_drewN _ _ _⟩ | exact ⟨rfl, _, Eq.trans (World.drewN_drewN _ _ _) (congrArg (World.drewN _) (Nat.add_assoc _ _ _))⟩); obtain ⟨Ao42, co42, eo42⟩ := Kd.R_slice HO_11.out; subst eo42; have p384 : 0 ≤ (x76_3 : Int) := of_decide_eq_true (by assumption); have q384 : x76_3 < (t371.length : Int) := of_decide_eq_true (by assumption); obtain ⟨ad384, e384, hx384_0⟩ := Kd.at_int (Kd.R_reads' HO_11.out).2.2 x76_3 p384 q384; cases e384; replace p384 := eq_true p384; replace q384 := eq_true q384; obtain ⟨Ao43, co43, eo43⟩ := Kd.R_slice HO_13.out; subst eo43; have p385 : 0 ≤ ((ji37) : Int) := of_decide_eq_true (by assumption); have q385 : (ji37) < (t375.length : Int) := of_decide_eq_true (by assumption); obtain ⟨ad385, e385, hx385_0⟩ := Kd.at_int (Kd.R_reads' HO_13.out).2.2 (ji37) p385 q385; cases e385; replace p385 := eq_true p385; replace q385 := eq_true q385) | (go_at_call 26; (with_reducible refine (epicycleref02_Mul.calls k3 (rd t371 x76_3) (rd t375 (ji37)) t368 t386 _ A40.out).mono ?_); rintro e w' ⟨rfl, ⟨nd, rfl⟩⟩; (try first | exact ⟨rfl, _, World.drewN_drewN _ _ _⟩ | exact ⟨rfl, _, Eq.trans (World.drewN_drewN _ _ _) (congrArg (World.drewN _) (Nat.add_assoc _ _ _))⟩)) | (go_at_call 28; (with_reducible refine (epicycleref02_Add.calls x16_3 t386 t368 t387 _ A41.out).mono ?_); rintro e w' ⟨rfl, ⟨nd, rfl⟩⟩; (try first | exact ⟨rfl, _, World.drewN_drewN _ _ _⟩ | exact ⟨rfl, _, Eq.trans (World.drewN_drewN _ _ _) (congrArg (World.drewN _) (Nat.add_assoc _ _ _))⟩))); try go_wp2_with (first | (go_at_call 26; (with_reducible refine (epicycleref02_Mul.calls k3 (rd l1 x76_3) (rd l2 x76_3) t368 t382 _ A33.out).mono ?_); rintro e w' ⟨rfl, ⟨nd, rfl⟩⟩; (try first | exact ⟨rfl, _, World.drewN_drewN _ _ _⟩ | exact ⟨rfl, _, Eq.trans (World.drewN_drewN _ _ _) (congrArg (World.drewN _) (Nat.add_assoc _ _ _))⟩)) | (go_at_call 28; (with_reducible refine (epicycleref02_Add.calls x15_3 t382 t368 t383 _ A34.out).mono ?_); rintro e w' ⟨rfl, ⟨nd, rfl⟩⟩; (try first | exact ⟨rfl, _, World.drewN_drewN _ _ _⟩ | exact ⟨rfl, _, Eq.trans (World.drewN_drewN _ _ _) (congrArg (World.drewN _) (Nat.add_assoc _ _ _))⟩); obtain ⟨Ao42, co42, eo42⟩ := Kd.R_slice HO_11.out; subst eo42; have p384 : 0 ≤ (x76_3 : Int) := of_decide_eq_true (by assumption); have q384 : x76_3 < (t371.length : Int) := of_decide_eq_true (by assumption); obtain ⟨ad384, e384, hx384_0⟩ := Kd.at_int (Kd.R_reads' HO_11.out).2.2 x76_3 p384 q384; cases e384; replace p384 := eq_true p384; replace q384 := eq_true q384; obtain ⟨Ao43, co43, eo43⟩ := Kd.R_slice HO_13.out; subst eo43; have p385 : 0 ≤ ((ji37) : Int) := of_decide_eq_true (by assumption); have q385 : (ji37) < (t375.length : Int) := of_decide_eq_true (by assumption); obtain ⟨ad385, e385, hx385_0⟩ := Kd.at_int (Kd.R_reads' HO_13.out).2.2 (ji37) p385 q385; cases e385; replace p385 := eq_true p385; replace q385 := eq_true q385) | (go_at_call 26; (with_reducible refine (epicycleref02_Mul.calls k3 (rd t371 x76_3) (rd t375 (ji37)) t368 t386 _ A40.out).mono ?_); rintro e w' ⟨rfl, ⟨nd, rfl⟩⟩; (try first | exact ⟨rfl, _, World.drewN_drewN _ _ _⟩ | exact ⟨rfl, _, Eq.trans (World.drewN_drewN _ _ _) (congrArg (World.drewN _) (Nat.add_assoc _ _ _))⟩)) | (go_at_call 28; (with_reducible refine (epicycleref02_Add.calls x16_3 t386 t368 t387 _ A41.out).mono ?_); rintro e w' ⟨rfl, ⟨nd, rfl⟩⟩; (try first | exact ⟨rfl, _, World.drewN_drewN _ _ _⟩ | exact ⟨rfl, _, Eq.trans (World.drewN_drewN _ _ _) (congrArg (World.drewN _) (Nat.add_assoc _ _ _))⟩))))
                  go_roundg k3
                  case measure => have := HJ6.out; have := HJ17.out; have := HK3.out; omega
                  case rel => exact ⟨(t383), (t387), (wrap64 (x76_3 + 1)), (by first | rfl | (simp; done) | (simp [*]; done)), (by first | rfl | (simp; done) | (simp [*]; done)), (by first | rfl | (simp; done) | (simp [*]; done)), H', ⟨by have := HJ6.out; have := HJ17.out; have := HK3.out; omega⟩, ⟨by (with_reducible repeat (first | apply Kd.R_alloc | apply Kd.R_drewN | apply Kd.R_drew)); exact HO_11.out⟩, ⟨by (with_reducible repeat (first | apply Kd.R_alloc | apply Kd.R_drewN | apply Kd.R_drew)); exact HO_13.out⟩, ⟨by (with_reducible repeat (first | refine blk_drewN ?_ _ | refine blk_drew ?_ | refine blk_alloc ?_ _)); exact BK363.out⟩, ⟨bel_⟩⟩
                 ·rw [if_neg c39] at H
                  exact absurd H (by simp)
                ·rw [if_neg c38] at H
                 exact absurd H (by simp)
              ·rw [if_neg c35] at H
               exact absurd H (by simp)
             ·rw [if_neg c32] at H
              exact absurd H (by simp)
            ·rw [if_neg c31] at H
             exact absurd H (by simp)
           ·rw [if_neg c30] at H
            exact absurd H (by simp)
          ·rw [if_neg c29] at H
           have c29b0 := decide_eq_false c29
           clear c29
           replace H := Option.bind_eq_some_iff.mp H
           obtain ⟨t379, A440, H⟩ := H
           (try dsimp only at H)
           have A44 := Aside0.mk A440
           clear A440
           have hR_ := Option.some.inj H
           go_wp2_with (first | (go_at_call 26; (with_reducible refine (epicycleref02_Mul.calls k3 x15_3 (IntKind.u64.wrap ((l1.length : Int))) t368 t379 _ A44.out).mono ?_); rintro e w' ⟨rfl, ⟨nd, rfl⟩⟩; (try first | exact ⟨rfl, _, World.drewN_drewN _ _ _⟩ | exact ⟨rfl, _, Eq.trans (World.drewN_drewN _ _ _) (congrArg (World.drewN _) (Nat.add_assoc _ _ _))⟩)))
           go_ret
           exact ⟨by first | rfl | (simp [errW_none, errW_some] <;> rfl) | (simp [*, errW_none, errW_some] <;> rfl), bel_⟩
 ·replace c5 := Bool.eq_false_iff.mpr c5
  subst c5
  have H1 := H; rw [if_neg (show ¬ (false = true) by decide)] at H1
  clear H
  have H := H1
  clear H1
  exact absurd H (by simp)
end Go.Proofs.YtndkmnjbjlfeaaaGreat.XG
end
