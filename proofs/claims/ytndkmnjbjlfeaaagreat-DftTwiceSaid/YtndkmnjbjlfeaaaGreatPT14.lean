/- Parts of this claim's texts, packed by wip/tools/prune.py: what the proof does not reach is left out. -/
import Derived.Test.YtndkmnjbjlfeaaaGreatPT13
section
namespace Go.Proofs.YtndkmnjbjlfeaaaGreat.XG
open Go.RowKit Go.Proofs.YtndkmnjbjlfeaaaGreat.Given Go.Proofs.YtndkmnjbjlfeaaaGreat.Row05 Go.Proofs.YtndkmnjbjlfeaaaGreat.XS Go.Proofs.YtndkmnjbjlfeaaaGreat.XT Go.Proofs.YtndkmnjbjlfeaaaGreat.XR Go.Proofs.YtndkmnjbjlfeaaaGreat.F06 Go.Proofs.YtndkmnjbjlfeaaaGreat.XK Go.Proofs.YtndkmnjbjlfeaaaGreat.XW Go.Proofs.YtndkmnjbjlfeaaaGreatW.PrintWords Go.Proofs.YtndkmnjbjlfeaaaGreatW.PrintLast Go.Proofs.YtndkmnjbjlfeaaaGreatW.PrintMore
attribute [local go_sem] max2_int min2_int max_two min_two max_three min_three max_four min_four   -- for this text's walks alone
set_option linter.unusedVariables false
set_option linter.unusedSimpArgs false
mutual
noncomputable def epicyclelaw11_DftTwice.j0 : Nat → List Int → Int → Int → List Int → List Int → Bool → Option (Bool)
 | 0, _, _, _, _, _, _ => none
 | k + 1, x1, x6, x8, x9, x11, x58 => if x58 = true then (some false) else (epicyclelaw11_DftTwice.l0 k x6 x8 x9 x11 0 x1 (x1.length : Int) 0)
noncomputable def epicyclelaw11_DftTwice.l0 : Nat → Int → Int → List Int → List Int → Int → List Int → Int → Int → Option (Bool)
 | 0, _, _, _, _, _, _, _, _ => none
 | k + 1, x6, x8, x9, x11, x13, x59, x60, x61 => if x61 < x60 then (if 0 ≤ x61 then (if x61 < (x59.length : Int) then ((epicycleref02_Add.f x13 (rd x59 x61) x6).bind fun t360 => (if x8 = 0 then (none) else (if 0 ≤ (Int.tmod (wrap64 (x8 - x61)) x8) then (if (Int.tmod (wrap64 (x8 - x61)) x8) < (x11.length : Int) then ((epicycleref02_Mul.f k (rd x59 x61) (IntKind.u64.wrap (x8)) x6).bind fun t362 => (if (rd x11 (Int.tmod (wrap64 (x8 - x61)) x8)) = t362 then (epicyclelaw11_DftTwice.l0 k x6 x8 x9 x11 t360 x59 x60 (wrap64 (x61 + 1))) else (some false))) else (none)) else (none)))) else (none)) else (none)) else (if 0 < (x9.length : Int) then (some ((rd x9 0) == x13)) else (none))
end
noncomputable def epicyclelaw11_DftTwice.f (k : Nat) (a0_0 : Int) (a0_1 : Int) (a0_2 : Int) (l0_3 : List (S134)) (l1 : List Int) : Option (Bool) := (epicyclelaw11_alive.f k).bind fun t344 => (if t344 = true then ((epicyclelaw11_fit.f k a0_0 a0_1 a0_2 l0_3 l1 64).bind fun bt345 => (if bt345.2.2 = true then ((dft_Run.f k bt345.1 l1 false).bind fun bt350 => ((dft_Run.f k bt345.1 bt350.1 false).bind fun bt354 => (if bt350.2 = 0 then (if bt354.2 = 0 then (if (bt350.1.length : Int) = (l1.length : Int) then (epicyclelaw11_DftTwice.j0 k l1 bt345.2.1 (l1.length : Int) bt350.1 bt354.1 ((bt354.1.length : Int) != (l1.length : Int))) else (epicyclelaw11_DftTwice.j0 k l1 bt345.2.1 (l1.length : Int) bt350.1 bt354.1 true)) else (epicyclelaw11_DftTwice.j0 k l1 bt345.2.1 (l1.length : Int) bt350.1 bt354.1 true)) else (epicyclelaw11_DftTwice.j0 k l1 bt345.2.1 (l1.length : Int) bt350.1 bt354.1 true)))) else (some true))) else (some false))
set_option maxHeartbeats 8000000 in
set_option maxRecDepth 100000 in
theorem epicyclelaw11_DftTwice.calls (k : Nat) (a0_0 : Int) (a0_1 : Int) (a0_2 : Int) (A0_3 : Option Addr) (c0_3 : Nat) (l0_3 : List (S134)) (A1 : Option Addr) (c1 : Nat) (l1 : List Int) (w : World) (hr0_3 : Kd.C k134 w A0_3 l0_3.length l0_3) (hc0_3 : l0_3.length ≤ c0_3) (hr1 : Kd.C (Kd.int .u64) w A1 l1.length l1) (hc1 : l1.length ≤ c1) (h : epicyclelaw11_DftTwice.f k a0_0 a0_1 a0_2 l0_3 l1 = some true) :
  Calls Tryz.prog 8 #[.agg #[.int .i64 a0_0, .int .i64 a0_1, .int .u64 a0_2, .slice A0_3 l0_3.length c0_3], .slice A1 l1.length c1] w fun e w' => e = .returned (.bool true) ∧ Below w.heap.size w w' := by
 have hu25 := Tryz.underlying25
 have HR0_3 := Aside0.mk hr0_3
 have HC0_3 := Aside0.mk hc0_3
 clear hr0_3 hc0_3
 have HR1 := Aside0.mk hr1
 have HC1 := Aside0.mk hc1
 clear hr1 hc1
 have HB := Aside0.mk (Below.refl w.heap.size w)
 have H := h; unfold epicyclelaw11_DftTwice.f at H
 clear h
 replace H := Option.bind_eq_some_iff.mp H
 obtain ⟨t344, A30, H⟩ := H
 (try dsimp only at H)
 have A3 := Aside0.mk A30
 clear A30
 by_cases c4 : t344 = true
 ·subst c4
  have H1 := H; rw [if_pos rfl] at H1
  clear H
  have H := H1
  clear H1
  replace H := Option.bind_eq_some_iff.mp H
  obtain ⟨⟨t345, t348, t349⟩, A50, H⟩ := H
  (try dsimp only at H)
  have A5 := Aside0.mk A50
  clear A50
  by_cases c6 : t349 = true
  ·subst c6
   have H1 := H; rw [if_pos rfl] at H1
   clear H
   have H := H1
   clear H1
   replace H := Option.bind_eq_some_iff.mp H
   obtain ⟨⟨t350, t351⟩, A70, H⟩ := H
   (try dsimp only at H)
   have A7 := Aside0.mk A70
   clear A70
   replace H := Option.bind_eq_some_iff.mp H
   obtain ⟨⟨t354, t355⟩, A80, H⟩ := H
   (try dsimp only at H)
   have A8 := Aside0.mk A80
   clear A80
   have HC9 := Aside0.mk H
   clear H
   go_enter Tryz.func8, Tryz.ntmps8
   go_upto_region 9 with (first | ((with_reducible refine gate_dst (N := 2) rfl ?_); (try (refine gate_guard (by rfl) ?_; dsimp only)); refine box_event ?hg (N := 2) ?hd (cs := #[.int .i64 a0_0, .int .i64 a0_1, .int .u64 a0_2, .slice A0_3 l0_3.length c0_3]) (t := 25) ?hr ?_; (case hd => rfl); (case hg => rfl); (case hr => first | (go_simp; done) | (go_simp; rfl)); intro gb343 hg w10 hbox hb; have n0_ := Aside0.mk (below_step bel_ hb); have n1_ := Aside0.mk (hbox); have n2_ := Aside0.mk ((by rw [hg]; exact (below_size bel_) : w.heap.size ≤ gb343)); have n3_ := Aside0.mk ((by rw [hg]; exact (below_size bel_) : w.heap.size ≤ gb343)); clear HB; have HB := n0_; have BK343 := n1_; have GW343 := n2_; have GE343 := n3_; clear n0_ n1_ n2_ n3_; clear hb hbox hg) | (go_at_call 16; (with_reducible refine (epicyclelaw11_alive.calls k  true _ A3.out).mono ?_); rintro e w11 ⟨rfl, hb⟩; have n0_ := Aside0.mk (blk_below (g := gb343) (o := .cells #[.int .i64 a0_0, .int .i64 a0_1, .int .u64 a0_2, .slice A0_3 l0_3.length c0_3] 25 (0, 0)) (by (with_reducible repeat (first | refine blk_drewN ?_ _ | refine blk_drew ?_ | refine blk_alloc ?_ _)); exact BK343.out) hb); have n1_ := Aside0.mk (below_step bel_ hb); clear BK343; clear HB; have BK343 := n0_; have HB := n1_; clear n0_ n1_; (try clear hb); (try clear hb2); (try clear hk); (try clear hi); have hcz12_0 : w11.cell? ⟨gb343, 0, none⟩ = some (.int .i64 a0_0) := (blk_cell BK343.out 0).trans rfl; have hcz12_1 : w11.cell? ⟨gb343, 1, none⟩ = some (.int .i64 a0_1) := (blk_cell BK343.out 1).trans rfl; have hcz12_2 : w11.cell? ⟨gb343, 2, none⟩ = some (.int .u64 a0_2) := (blk_cell BK343.out 2).trans rfl; have hcz12_3 : w11.cell? ⟨gb343, 3, none⟩ = some (.slice A0_3 l0_3.length c0_3) := (blk_cell BK343.out 3).trans rfl; have hfz12_0 := blk_frozen BK343.out 0; have hfz12_1 := blk_frozen BK343.out 1; have hfz12_2 := blk_frozen BK343.out 2; have hfz12_3 := blk_frozen BK343.out 3) | (go_at_call 27; (with_reducible refine (epicyclelaw11_fit.calls k a0_0 a0_1 a0_2 _ _ l0_3 _ _ l1 64 t345 t348 true _ ?side1 ?side2 ?side3 ?side4 A5.out).mono ?_); (case side1 => repeat (first | exact (Kd.C_below HR0_3.out HB.out) | (with_reducible refine Kd.C_alloc ?_ _) | (with_reducible refine Kd.C_drewN ?_ _) | (with_reducible refine Kd.C_drew ?_))); (case side2 => exact HC0_3.out); (case side3 => repeat (first | exact (Kd.C_below HR1.out HB.out) | (with_reducible refine Kd.C_alloc ?_ _) | (with_reducible refine Kd.C_drewN ?_ _) | (with_reducible refine Kd.C_drew ?_))); (case side4 => exact HC1.out); rintro e w13 ⟨v346, rfl, ho0, hb⟩; have n0_ := Aside0.mk (Kd.R_lower ho0 (below_size bel_)); have n1_ := Aside0.mk (blk_below (g := gb343) (o := .cells #[.int .i64 a0_0, .int .i64 a0_1, .int .u64 a0_2, .slice A0_3 l0_3.length c0_3] 25 (0, 0)) (by (with_reducible repeat (first | refine blk_drewN ?_ _ | refine blk_drew ?_ | refine blk_alloc ?_ _)); exact BK343.out) hb); have n2_ := Aside0.mk (below_step bel_ hb); clear BK343; clear HB; have HO347 := n0_; have BK343 := n1_; have HB := n2_; clear n0_ n1_ n2_; (try clear hb); (try clear hb2); (try clear hk); (try clear hi); (try clear ho0); obtain ⟨Ao14, co14, eo14⟩ := Kd.R_slice HO347.out; subst eo14) | (go_at_call 18; (try rw [← hT_HO347]); (with_reducible refine (dft_Run.calls k _ _ t345 _ _ l1 false t350 t351 _ ?side1 ?side2 ?side3 ?side4 A7.out).mono ?_); (case side1 => repeat (first | exact (Kd.R_reads' HO347.out).2.2 | (with_reducible refine Kd.C_alloc ?_ _) | (with_reducible refine Kd.C_drewN ?_ _) | (with_reducible refine Kd.C_drew ?_))); (case side2 => exact (Kd.R_reads' HO347.out).2.1); (case side3 => repeat (first | exact (Kd.C_below HR1.out HB.out) | (with_reducible refine Kd.C_alloc ?_ _) | (with_reducible refine Kd.C_drewN ?_ _) | (with_reducible refine Kd.C_drew ?_))); (case side4 => exact HC1.out); rintro e w15 ⟨v352, rfl, ho0, hb⟩; have n0_ := Aside0.mk (Kd.R_below (by (with_reducible repeat (first | apply Kd.R_alloc | apply Kd.R_drewN | apply Kd.R_drew)); exact HO347.out) hb); have n1_ := Aside0.mk (Kd.R_lower ho0 (below_size bel_)); have n2_ := Aside0.mk (blk_below (g := gb343) (o := .cells #[.int .i64 a0_0, .int .i64 a0_1, .int .u64 a0_2, .slice A0_3 l0_3.length c0_3] 25 (0, 0)) (by (with_reducible repeat (first | refine blk_drewN ?_ _ | refine blk_drew ?_ | refine blk_alloc ?_ _)); exact BK343.out) hb); have n3_ := Aside0.mk (below_step bel_ hb); clear HO347; clear BK343; clear HB; have HO347 := n0_; have HO353 := n1_; have BK343 := n2_; have HB := n3_; clear n0_ n1_ n2_ n3_; (try clear hb); (try clear hb2); (try clear hk); (try clear hi); (try clear ho0); obtain ⟨Ao16, co16, eo16⟩ := Kd.R_slice HO353.out; subst eo16) | (go_at_call 18; (try rw [← hT_HO347]); (with_reducible refine (dft_Run.calls k _ _ t345 _ _ t350 false t354 t355 _ ?side1 ?side2 ?side3 ?side4 A8.out).mono ?_); (case side1 => repeat (first | exact (Kd.R_reads' HO347.out).2.2 | (with_reducible refine Kd.C_alloc ?_ _) | (with_reducible refine Kd.C_drewN ?_ _) | (with_reducible refine Kd.C_drew ?_))); (case side2 => exact (Kd.R_reads' HO347.out).2.1); (case side3 => repeat (first | exact (Kd.R_reads' HO353.out).2.2 | (with_reducible refine Kd.C_alloc ?_ _) | (with_reducible refine Kd.C_drewN ?_ _) | (with_reducible refine Kd.C_drew ?_))); (case side4 => exact (Kd.R_reads' HO353.out).2.1); rintro e w17 ⟨v356, rfl, ho0, hb⟩; have n0_ := Aside0.mk (Kd.R_below (by (with_reducible repeat (first | apply Kd.R_alloc | apply Kd.R_drewN | apply Kd.R_drew)); exact HO347.out) hb); have n1_ := Aside0.mk (Kd.R_elder' (by (with_reducible repeat (first | apply Kd.R_alloc | apply Kd.R_drewN | apply Kd.R_drew)); exact HO353.out) (Kd.R_base ho0) hb); have n2_ := Aside0.mk (Kd.R_lower (Kd.R_new' ho0 (Kd.R_lt (by (with_reducible repeat (first | apply Kd.R_alloc | apply Kd.R_drewN | apply Kd.R_drew)); exact HO353.out))) (below_size bel_)); have n3_ := Aside0.mk (blk_below (g := gb343) (o := .cells #[.int .i64 a0_0, .int .i64 a0_1, .int .u64 a0_2, .slice A0_3 l0_3.length c0_3] 25 (0, 0)) (by (with_reducible repeat (first | refine blk_drewN ?_ _ | refine blk_drew ?_ | refine blk_alloc ?_ _)); exact BK343.out) hb); have n4_ := Aside0.mk (below_step bel_ hb); clear HO347; clear HO353; clear BK343; clear HB; have HO347 := n0_; have HO353 := n1_; have HO357 := n2_; have BK343 := n3_; have HB := n4_; clear n0_ n1_ n2_ n3_ n4_; (try clear hb); (try clear hb2); (try clear hk); (try clear hi); (try clear ho0)))
   (try simp only [Act.put, List.setIfInBounds_toArray, List.set_cons_zero, List.set_cons_succ])
   go_cut [58] (fun v58 wc => ∃ (kq : Nat) (x58_8 : Bool), v58 = .bool x58_8 ∧ Aside0 (epicyclelaw11_DftTwice.j0 kq l1 t348 (l1.length : Int) t350 t354 x58_8 = some true) ∧ Aside0 (kq ≤ k) ∧ Aside0 (Kd.R (Kd.int .u64) 22 wc w.heap.size (fun k_ => some k_ ≠ (v356 : Value).ownBlock) (.slice Ao16 t350.length co16) t350) ∧ Aside0 (Kd.R (Kd.int .u64) 22 wc w.heap.size (fun k_ => some k_ ≠ ((.slice Ao16 t350.length co16) : Value).ownBlock) v356 t354) ∧ Aside0 (wc.heap[gb343]? = some (.cells #[.int .i64 a0_0, .int .i64 a0_1, .int .u64 a0_2, (.slice A0_3 l0_3.length c0_3)] 25 (0, 0))) ∧ Aside0 (Below w.heap.size w wc))
   case first =>
    have H := HC9.out
    clear HC9
    by_cases c18 : t351 = 0
    ·rw [if_pos c18] at H
     have c18b0 := beq_iff_eq.mpr c18
     have c18b1 := bne_eq_false_iff_eq.mpr c18
     clear c18
     (first | rw [c18b0] | (simp only [i64_w, i32_w]; rw [c18b0]) | skip)
     by_cases c19 : t355 = 0
     ·rw [if_pos c19] at H
      have c19b0 := beq_iff_eq.mpr c19
      have c19b1 := bne_eq_false_iff_eq.mpr c19
      clear c19
      by_cases c20 : (t350.length : Int) = (l1.length : Int)
      ·rw [if_pos c20] at H
       have c20b0 := beq_iff_eq.mpr c20
       have c20b1 := bne_eq_false_iff_eq.mpr c20
       have c20b2 : (t350.length == l1.length) = true := by first | simpa using c20 | (simp at c20 ⊢; omega)
       clear c20
       have H' := Aside0.mk H
       clear H
       obtain ⟨Ao21, co21, eo21⟩ := Kd.R_slice HO357.out
       subst eo21
       go_wp2
       go_meet
       case rel => exact ⟨_, (((t354.length : Int) != (l1.length : Int))), (by first | rfl | (simp; done) | (simp [*]; done)), H', ⟨by first | omega | exact Nat.le_refl _⟩, ⟨by (with_reducible repeat (first | apply Kd.R_alloc | apply Kd.R_drewN | apply Kd.R_drew)); exact Kd.R_mono HO353.out (fun _ hk => hk.2)⟩, ⟨by (with_reducible repeat (first | apply Kd.R_alloc | apply Kd.R_drewN | apply Kd.R_drew)); exact Kd.R_mono HO357.out (fun _ hk => hk.2)⟩, ⟨by (with_reducible repeat (first | refine blk_drewN ?_ _ | refine blk_drew ?_ | refine blk_alloc ?_ _)); exact BK343.out⟩, ⟨bel_⟩⟩
      ·rw [if_neg c20] at H
       have c20b0 := beq_eq_false_iff_ne.mpr c20
       have c20b1 := bne_iff_ne.mpr c20
       have c20b2 : (t350.length == l1.length) = false := by first | simpa using c20 | (simp at c20 ⊢; omega)
       have H' := Aside0.mk H
       clear H
       go_wp2
       go_meet
       case rel => exact ⟨_, (true), (by first | rfl | (simp; done) | (simp [*]; done)), H', ⟨by first | omega | exact Nat.le_refl _⟩, ⟨by (with_reducible repeat (first | apply Kd.R_alloc | apply Kd.R_drewN | apply Kd.R_drew)); exact Kd.R_mono HO353.out (fun _ hk => hk.2)⟩, ⟨by (with_reducible repeat (first | apply Kd.R_alloc | apply Kd.R_drewN | apply Kd.R_drew)); exact Kd.R_mono HO357.out (fun _ hk => hk.2)⟩, ⟨by (with_reducible repeat (first | refine blk_drewN ?_ _ | refine blk_drew ?_ | refine blk_alloc ?_ _)); exact BK343.out⟩, ⟨bel_⟩⟩
     ·rw [if_neg c19] at H
      have c19b0 := beq_eq_false_iff_ne.mpr c19
      have c19b1 := bne_iff_ne.mpr c19
      have H' := Aside0.mk H
      clear H
      go_wp2
      go_meet
      case rel => exact ⟨_, (true), (by first | rfl | (simp; done) | (simp [*]; done)), H', ⟨by first | omega | exact Nat.le_refl _⟩, ⟨by (with_reducible repeat (first | apply Kd.R_alloc | apply Kd.R_drewN | apply Kd.R_drew)); exact Kd.R_mono HO353.out (fun _ hk => hk.2)⟩, ⟨by (with_reducible repeat (first | apply Kd.R_alloc | apply Kd.R_drewN | apply Kd.R_drew)); exact Kd.R_mono HO357.out (fun _ hk => hk.2)⟩, ⟨by (with_reducible repeat (first | refine blk_drewN ?_ _ | refine blk_drew ?_ | refine blk_alloc ?_ _)); exact BK343.out⟩, ⟨bel_⟩⟩
    ·rw [if_neg c18] at H
     have c18b0 := beq_eq_false_iff_ne.mpr c18
     have c18b1 := bne_iff_ne.mpr c18
     (first | rw [c18b0] | (simp only [i64_w, i32_w]; rw [c18b0]) | skip)
     have H' := Aside0.mk H
     clear H
     go_wp2
     go_meet
     case rel => exact ⟨_, (true), (by first | rfl | (simp; done) | (simp [*]; done)), H', ⟨by first | omega | exact Nat.le_refl _⟩, ⟨by (with_reducible repeat (first | apply Kd.R_alloc | apply Kd.R_drewN | apply Kd.R_drew)); exact Kd.R_mono HO353.out (fun _ hk => hk.2)⟩, ⟨by (with_reducible repeat (first | apply Kd.R_alloc | apply Kd.R_drewN | apply Kd.R_drew)); exact Kd.R_mono HO357.out (fun _ hk => hk.2)⟩, ⟨by (with_reducible repeat (first | refine blk_drewN ?_ _ | refine blk_drew ?_ | refine blk_alloc ?_ _)); exact BK343.out⟩, ⟨bel_⟩⟩
   case rest =>
    clear HC9
    try clear c1
    try clear c2
    try clear p2
    try clear c4
    try clear c6
    try clear c8
    try clear c18
    try clear c18b0
    try clear c18b1
    try clear c19
    try clear c19b0
    try clear c19b1
    try clear c20
    try clear c20b0
    try clear c20b1
    try clear c20b2
    try clear hcz12_0
    try clear hcz12_1
    try clear hcz12_2
    try clear hcz12_3
    try clear hfz12_0
    try clear hfz12_1
    try clear hfz12_2
    try clear hfz12_3
    obtain ⟨kq, x58_8, rfl, HA, HJ8, HO_9, HO_11, BK343, HB⟩ := hcut
    cases kq with
    | zero => exact absurd HA.out (by simp [epicyclelaw11_DftTwice.j0])
    | succ kj8 =>
     have H := HA.out
     clear HA
     simp only [epicyclelaw11_DftTwice.j0] at H
     by_cases c22 : x58_8 = true
     ·subst c22
      have H1 := H; rw [if_pos rfl] at H1
      clear H
      have H := H1
      clear H1
      exact absurd H (by simp)
     ·replace c22 := Bool.eq_false_iff.mpr c22
      subst c22
      have H1 := H; rw [if_neg (show ¬ (false = true) by decide)] at H1
      clear H
      have H := H1
      clear H1
      have H' := Aside0.mk H
      clear H
      go_wp2
      go_loopg [13, 61] kj8 (fun kq v13 v61 w' => ∃ (x13_2 : Int) (x61_2 : Int), v13 = .int .u64 x13_2 ∧ v61 = .int .i64 x61_2 ∧ Aside0 (epicyclelaw11_DftTwice.l0 kq t348 (l1.length : Int) t350 t354 x13_2 l1 (l1.length : Int) x61_2 = some true) ∧ Aside0 (kq ≤ kj8) ∧ Aside0 (Kd.R (Kd.int .u64) 22 w' w.heap.size (fun k_ => some k_ ≠ (v356 : Value).ownBlock) (.slice Ao16 t350.length co16) t350) ∧ Aside0 (Kd.R (Kd.int .u64) 22 w' w.heap.size (fun k_ => some k_ ≠ ((.slice Ao16 t350.length co16) : Value).ownBlock) v356 t354) ∧ Aside0 (w'.heap[gb343]? = some (.cells #[.int .i64 a0_0, .int .i64 a0_1, .int .u64 a0_2, (.slice A0_3 l0_3.length c0_3)] 25 (0, 0))) ∧ Aside0 (Below w.heap.size w w'))
      case atStart => exact ⟨(0), (0), (by first | rfl | (simp; done) | (simp [*]; done)), (by first | rfl | (simp; done) | (simp [*]; done)), H', ⟨Nat.le_refl _⟩, ⟨by (with_reducible repeat (first | apply Kd.R_alloc | apply Kd.R_drewN | apply Kd.R_drew)); exact HO_9.out⟩, ⟨by (with_reducible repeat (first | apply Kd.R_alloc | apply Kd.R_drewN | apply Kd.R_drew)); exact HO_11.out⟩, ⟨by (with_reducible repeat (first | refine blk_drewN ?_ _ | refine blk_drew ?_ | refine blk_alloc ?_ _)); exact BK343.out⟩, ⟨bel_⟩⟩
      case round =>
       clear H'
       try clear c1
       try clear c2
       try clear p2
       try clear c4
       try clear c6
       try clear c8
       try clear c18
       try clear c18b0
       try clear c18b1
       try clear c19
       try clear c19b0
       try clear c19b1
       try clear c20
       try clear c20b0
       try clear c20b1
       try clear c20b2
       try clear c22
       try clear hcz12_0
       try clear hcz12_1
       try clear hcz12_2
       try clear hcz12_3
       try clear hfz12_0
       try clear hfz12_1
       try clear hfz12_2
       try clear hfz12_3
       try clear p2
       obtain ⟨x13_2, x61_2, rfl, rfl, HA, HK2, HO_9, HO_11, BK343, HB⟩ := hrel
       cases gk with
       | zero => exact absurd HA.out (by simp [epicyclelaw11_DftTwice.l0])
       | succ k2 =>
        have H := HA.out
        clear HA
        simp only [epicyclelaw11_DftTwice.l0] at H
        by_cases c23 : x61_2 < (l1.length : Int)
        ·rw [if_pos c23] at H
         have c23b0 := decide_eq_true c23
         clear c23
         by_cases c24 : 0 ≤ x61_2
         ·rw [if_pos c24] at H
          have c24b0 := decide_eq_true c24
          clear c24
          by_cases c25 : x61_2 < (l1.length : Int)
          ·rw [if_pos c25] at H
           have c25b0 := decide_eq_true c25
           clear c25
           replace H := Option.bind_eq_some_iff.mp H
           obtain ⟨t360, A260, H⟩ := H
           (try dsimp only at H)
           have A26 := Aside0.mk A260
           clear A260
           by_cases c27 : (l1.length : Int) = 0
           ·rw [if_pos c27] at H
            exact absurd H (by simp)
           ·rw [if_neg c27] at H
            have c27b0 := beq_eq_false_iff_ne.mpr c27
            have c27b1 := bne_iff_ne.mpr c27
            have c27b2 : ¬ (l1 = []) := fun h_ => c27 (by rw [h_]; rfl)
            obtain ⟨ji28, hji28⟩ : ∃ j_ : Int, (Int.tmod (wrap64 ((l1.length : Int) - x61_2)) (l1.length : Int)) = j_ := ⟨_, rfl⟩
            (first | rw [hji28] at H | simp only [hji28] at H)
            (try rw [hji28] at A26)
            have hji28v : (Int.tmod (IntKind.i64.wrap ((l1.length : Int) - x61_2)) (l1.length : Int)) = ji28 := by simp only [i64_w]; exact hji28
            by_cases c29 : 0 ≤ (ji28)
            ·rw [if_pos c29] at H
             have c29b0 := decide_eq_true c29
             clear c29
             by_cases c30 : (ji28) < (t354.length : Int)
             ·rw [if_pos c30] at H
              have c30b0 := decide_eq_true c30
              clear c30
              replace H := Option.bind_eq_some_iff.mp H
              obtain ⟨t362, A310, H⟩ := H
              (try dsimp only at H)
              have A31 := Aside0.mk A310
              clear A310
              by_cases c32 : (rd t354 (ji28)) = t362
              ·rw [if_pos c32] at H
               have c32b0 := beq_iff_eq.mpr c32
               have c32b1 := bne_eq_false_iff_eq.mpr c32
               clear c32
               have H' := Aside0.mk H
               clear H
               have p359 : 0 ≤ (x61_2 : Int) := of_decide_eq_true (by assumption)
               have q359 : x61_2 < (l1.length : Int) := of_decide_eq_true (by assumption)
               obtain ⟨ad359, e359, hx359_0⟩ := Kd.at_int HR1.out x61_2 p359 q359
               cases e359
               replace hx359_0 := (HB.out.cell (World.block_lt_of_cell? w _ hx359_0)).trans hx359_0
               replace p359 := eq_true p359
               replace q359 := eq_true q359
               go_wp2_with (first | (go_at_call 28; (with_reducible refine (epicycleref02_Add.calls x13_2 (rd l1 x61_2) t348 t360 _ A26.out).mono ?_); rintro e w' ⟨rfl, ⟨nd, rfl⟩⟩; (try first | exact ⟨rfl, _, World.drewN_drewN _ _ _⟩ | exact ⟨rfl, _, Eq.trans (World.drewN_drewN _ _ _) (congrArg (World.drewN _) (Nat.add_assoc _ _ _))⟩); obtain ⟨Ao33, co33, eo33⟩ := Kd.R_slice HO_11.out; subst eo33; have p361 : 0 ≤ ((ji28) : Int) := of_decide_eq_true (by assumption); have q361 : (ji28) < (t354.length : Int) := of_decide_eq_true (by assumption); obtain ⟨ad361, e361, hx361_0⟩ := Kd.at_int (Kd.R_reads' HO_11.out).2.2 (ji28) p361 q361; cases e361; replace p361 := eq_true p361; replace q361 := eq_true q361) | (go_at_call 26; (with_reducible refine (epicycleref02_Mul.calls k2 (rd l1 x61_2) (IntKind.u64.wrap ((l1.length : Int))) t348 t362 _ A31.out).mono ?_); rintro e w' ⟨rfl, ⟨nd, rfl⟩⟩; (try first | exact ⟨rfl, _, World.drewN_drewN _ _ _⟩ | exact ⟨rfl, _, Eq.trans (World.drewN_drewN _ _ _) (congrArg (World.drewN _) (Nat.add_assoc _ _ _))⟩)))
               repeat (go_quiet (first | (go_at_call 28; (with_reducible refine (epicycleref02_Add.calls x13_2 (rd l1 x61_2) t348 t360 _ A26.out).mono ?_); rintro e w' ⟨rfl, ⟨nd, rfl⟩⟩; (try first | exact ⟨rfl, _, World.drewN_drewN _ _ _⟩ | exact ⟨rfl, _, Eq.trans (World.drewN_drewN _ _ _) (congrArg (World.drewN _) (Nat.add_assoc _ _ _))⟩); obtain ⟨Ao33, co33, eo33⟩ := Kd.R_slice HO_11.out; subst eo33; have p361 : 0 ≤ ((ji28) : Int) := of_decide_eq_true (by assumption); have q361 : (ji28) < (t354.length : Int) := of_decide_eq_true (by assumption); obtain ⟨ad361, e361, hx361_0⟩ := Kd.at_int (Kd.R_reads' HO_11.out).2.2 (ji28) p361 q361; cases e361; replace p361 := eq_true p361; replace q361 := eq_true q361) | (go_at_call 26; (with_reducible refine (epicycleref02_Mul.calls k2 (rd l1 x61_2) (IntKind.u64.wrap ((l1.length : Int))) t348 t362 _ A31.out).mono ?_); rintro e w' ⟨rfl, ⟨nd, rfl⟩⟩; (try first | exact ⟨rfl, _, World.drewN_drewN _ _ _⟩ | exact ⟨rfl, _, Eq.trans (World.drewN_drewN _ _ _) (congrArg (World.drewN _) (Nat.add_assoc _ _ _))⟩))); try go_wp2_with (first | (go_at_call 28; (with_reducible refine (epicycleref02_Add.calls x13_2 (rd l1 x61_2) t348 t360 _ A26.out).mono ?_); rintro e w' ⟨rfl, ⟨nd, rfl⟩⟩; (try first | exact ⟨rfl, _, World.drewN_drewN _ _ _⟩ | exact ⟨rfl, _, Eq.trans (World.drewN_drewN _ _ _) (congrArg (World.drewN _) (Nat.add_assoc _ _ _))⟩); obtain ⟨Ao33, co33, eo33⟩ := Kd.R_slice HO_11.out; subst eo33; have p361 : 0 ≤ ((ji28) : Int) := of_decide_eq_true (by assumption); have q361 : (ji28) < (t354.length : Int) := of_decide_eq_true (by assumption); obtain ⟨ad361, e361, hx361_0⟩ := Kd.at_int (Kd.R_reads' HO_11.out).2.2 (ji28) p361 q361; cases e361; replace p361 := eq_true p361; replace q361 := eq_true q361) | (go_at_call 26; (with_reducible refine (epicycleref02_Mul.calls k2 (rd l1 x61_2) (IntKind.u64.wrap ((l1.length : Int))) t348 t362 _ A31.out).mono ?_); rintro e w' ⟨rfl, ⟨nd, rfl⟩⟩; (try first | exact ⟨rfl, _, World.drewN_drewN _ _ _⟩ | exact ⟨rfl, _, Eq.trans (World.drewN_drewN _ _ _) (congrArg (World.drewN _) (Nat.add_assoc _ _ _))⟩))))
               go_roundg k2
               case measure => have := HJ8.out; have := HK2.out; omega
               case rel => exact ⟨(t360), (wrap64 (x61_2 + 1)), (by first | rfl | (simp; done) | (simp [*]; done)), (by first | rfl | (simp; done) | (simp [*]; done)), H', ⟨by have := HJ8.out; have := HK2.out; omega⟩, ⟨by (with_reducible repeat (first | apply Kd.R_alloc | apply Kd.R_drewN | apply Kd.R_drew)); exact HO_9.out⟩, ⟨by (with_reducible repeat (first | apply Kd.R_alloc | apply Kd.R_drewN | apply Kd.R_drew)); exact HO_11.out⟩, ⟨by (with_reducible repeat (first | refine blk_drewN ?_ _ | refine blk_drew ?_ | refine blk_alloc ?_ _)); exact BK343.out⟩, ⟨bel_⟩⟩
              ·rw [if_neg c32] at H
               have c32b0 := beq_eq_false_iff_ne.mpr c32
               have c32b1 := bne_iff_ne.mpr c32
               exact absurd H (by simp)
             ·rw [if_neg c30] at H
              exact absurd H (by simp)
            ·rw [if_neg c29] at H
             exact absurd H (by simp)
          ·rw [if_neg c25] at H
           exact absurd H (by simp)
         ·rw [if_neg c24] at H
          exact absurd H (by simp)
        ·rw [if_neg c23] at H
         have c23b0 := decide_eq_false c23
         clear c23
         by_cases c34 : 0 < (t350.length : Int)
         ·rw [if_pos c34] at H
          have c34b0 := decide_eq_true c34
          have c34b1 : decide (0 < t350.length) = true := decide_eq_true (by omega)
          clear c34
          have hR_ := Option.some.inj H
          have p358 : 0 ≤ (0 : Int) := (by omega)
          have q358 : 0 < (t350.length : Int) := of_decide_eq_true (by assumption)
          obtain ⟨ad358, e358, hx358_0⟩ := Kd.at_int (Kd.R_reads' HO_9.out).2.2 0 p358 q358
          cases e358
          have qi358 : (0 < t350.length) = True := eq_true (by omega)
          (try rw [show ((0 : Int)).toNat = 0 from rfl] at hx358_0)
          (try rw [Addr.add_zero'] at hx358_0)
          replace p358 := eq_true p358
          replace q358 := eq_true q358
          go_wp2
          go_ret
          exact ⟨by first | rfl | (simp [errW_none, errW_some] <;> rfl) | (simp [*, errW_none, errW_some] <;> rfl), bel_⟩
         ·rw [if_neg c34] at H
          exact absurd H (by simp)
  ·replace c6 := Bool.eq_false_iff.mpr c6
   subst c6
   have H1 := H; rw [if_neg (show ¬ (false = true) by decide)] at H1
   clear H
   have H := H1
   clear H1
   clear H
   go_enter Tryz.func8, Tryz.ntmps8
   go_wp2_with (first | ((with_reducible refine gate_dst (N := 2) rfl ?_); (try (refine gate_guard (by rfl) ?_; dsimp only)); refine box_event ?hg (N := 2) ?hd (cs := #[.int .i64 a0_0, .int .i64 a0_1, .int .u64 a0_2, .slice A0_3 l0_3.length c0_3]) (t := 25) ?hr ?_; (case hd => rfl); (case hg => rfl); (case hr => first | (go_simp; done) | (go_simp; rfl)); intro gb343 hg w35 hbox hb; have n0_ := Aside0.mk (below_step bel_ hb); have n1_ := Aside0.mk (hbox); have n2_ := Aside0.mk ((by rw [hg]; exact (below_size bel_) : w.heap.size ≤ gb343)); have n3_ := Aside0.mk ((by rw [hg]; exact (below_size bel_) : w.heap.size ≤ gb343)); clear HB; have HB := n0_; have BK343 := n1_; have GW343 := n2_; have GE343 := n3_; clear n0_ n1_ n2_ n3_; clear hb hbox hg) | (go_at_call 16; (with_reducible refine (epicyclelaw11_alive.calls k  true _ A3.out).mono ?_); rintro e w36 ⟨rfl, hb⟩; have n0_ := Aside0.mk (blk_below (g := gb343) (o := .cells #[.int .i64 a0_0, .int .i64 a0_1, .int .u64 a0_2, .slice A0_3 l0_3.length c0_3] 25 (0, 0)) (by (with_reducible repeat (first | refine blk_drewN ?_ _ | refine blk_drew ?_ | refine blk_alloc ?_ _)); exact BK343.out) hb); have n1_ := Aside0.mk (below_step bel_ hb); clear BK343; clear HB; have BK343 := n0_; have HB := n1_; clear n0_ n1_; (try clear hb); (try clear hb2); (try clear hk); (try clear hi); have hcz37_0 : w36.cell? ⟨gb343, 0, none⟩ = some (.int .i64 a0_0) := (blk_cell BK343.out 0).trans rfl; have hcz37_1 : w36.cell? ⟨gb343, 1, none⟩ = some (.int .i64 a0_1) := (blk_cell BK343.out 1).trans rfl; have hcz37_2 : w36.cell? ⟨gb343, 2, none⟩ = some (.int .u64 a0_2) := (blk_cell BK343.out 2).trans rfl; have hcz37_3 : w36.cell? ⟨gb343, 3, none⟩ = some (.slice A0_3 l0_3.length c0_3) := (blk_cell BK343.out 3).trans rfl; have hfz37_0 := blk_frozen BK343.out 0; have hfz37_1 := blk_frozen BK343.out 1; have hfz37_2 := blk_frozen BK343.out 2; have hfz37_3 := blk_frozen BK343.out 3) | (go_at_call 27; (with_reducible refine (epicyclelaw11_fit.calls k a0_0 a0_1 a0_2 _ _ l0_3 _ _ l1 64 t345 t348 false _ ?side1 ?side2 ?side3 ?side4 A5.out).mono ?_); (case side1 => repeat (first | exact (Kd.C_below HR0_3.out HB.out) | (with_reducible refine Kd.C_alloc ?_ _) | (with_reducible refine Kd.C_drewN ?_ _) | (with_reducible refine Kd.C_drew ?_))); (case side2 => exact HC0_3.out); (case side3 => repeat (first | exact (Kd.C_below HR1.out HB.out) | (with_reducible refine Kd.C_alloc ?_ _) | (with_reducible refine Kd.C_drewN ?_ _) | (with_reducible refine Kd.C_drew ?_))); (case side4 => exact HC1.out); rintro e w38 ⟨v346, rfl, ho0, hb⟩; have n0_ := Aside0.mk (Kd.R_lower ho0 (below_size bel_)); have n1_ := Aside0.mk (blk_below (g := gb343) (o := .cells #[.int .i64 a0_0, .int .i64 a0_1, .int .u64 a0_2, .slice A0_3 l0_3.length c0_3] 25 (0, 0)) (by (with_reducible repeat (first | refine blk_drewN ?_ _ | refine blk_drew ?_ | refine blk_alloc ?_ _)); exact BK343.out) hb); have n2_ := Aside0.mk (below_step bel_ hb); clear BK343; clear HB; have HO347 := n0_; have BK343 := n1_; have HB := n2_; clear n0_ n1_ n2_; (try clear hb); (try clear hb2); (try clear hk); (try clear hi); (try clear ho0)))
   go_ret
   exact ⟨by first | rfl | (simp [errW_none, errW_some] <;> rfl) | (simp [*, errW_none, errW_some] <;> rfl), bel_⟩
 ·replace c4 := Bool.eq_false_iff.mpr c4
  subst c4
  have H1 := H; rw [if_neg (show ¬ (false = true) by decide)] at H1
  clear H
  have H := H1
  clear H1
  exact absurd H (by simp)
end Go.Proofs.YtndkmnjbjlfeaaaGreat.XG
end
section
namespace Go.Proofs.YtndkmnjbjlfeaaaGreat.XG
open Go.RowKit Go.Proofs.YtndkmnjbjlfeaaaGreat.Given Go.Proofs.YtndkmnjbjlfeaaaGreat.Row05 Go.Proofs.YtndkmnjbjlfeaaaGreat.XS Go.Proofs.YtndkmnjbjlfeaaaGreat.XT Go.Proofs.YtndkmnjbjlfeaaaGreat.XR Go.Proofs.YtndkmnjbjlfeaaaGreat.F06 Go.Proofs.YtndkmnjbjlfeaaaGreat.XK Go.Proofs.YtndkmnjbjlfeaaaGreat.XW Go.Proofs.YtndkmnjbjlfeaaaGreatW.PrintWords Go.Proofs.YtndkmnjbjlfeaaaGreatW.PrintLast Go.Proofs.YtndkmnjbjlfeaaaGreatW.PrintMore
attribute [local go_sem] max2_int min2_int max_two min_two max_three min_three max_four min_four   -- for this text's walks alone
set_option linter.unusedVariables false
set_option linter.unusedSimpArgs false
end Go.Proofs.YtndkmnjbjlfeaaaGreat.XG
end
