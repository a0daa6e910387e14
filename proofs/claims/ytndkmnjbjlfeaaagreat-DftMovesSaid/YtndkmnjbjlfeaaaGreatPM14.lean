/- Parts of this claim's texts, packed by wip/tools/prune.py: what the proof does not reach is left out. -/
import Derived.Test.YtndkmnjbjlfeaaaGreatPM13
section
namespace Go.Proofs.YtndkmnjbjlfeaaaGreat.XG
open Go.RowKit Go.Proofs.YtndkmnjbjlfeaaaGreat.Given Go.Proofs.YtndkmnjbjlfeaaaGreat.Row05 Go.Proofs.YtndkmnjbjlfeaaaGreat.XS Go.Proofs.YtndkmnjbjlfeaaaGreat.XT Go.Proofs.YtndkmnjbjlfeaaaGreat.XR Go.Proofs.YtndkmnjbjlfeaaaGreat.F06 Go.Proofs.YtndkmnjbjlfeaaaGreat.XK Go.Proofs.YtndkmnjbjlfeaaaGreat.XW Go.Proofs.YtndkmnjbjlfeaaaGreatW.PrintWords Go.Proofs.YtndkmnjbjlfeaaaGreatW.PrintLast Go.Proofs.YtndkmnjbjlfeaaaGreatW.PrintMore
attribute [local go_sem] max2_int min2_int max_two min_two max_three min_three max_four min_four   -- for this text's walks alone
set_option linter.unusedVariables false
set_option linter.unusedSimpArgs false
mutual
noncomputable def epicyclelaw11_DftMoves.j0 : Nat → List Int → Int → List (Fld) → Int → Bool → Option (Bool)
 | 0, _, _, _, _, _ => none
 | k + 1, x1, x2, x7, x8, x41 => if x41 = true then (some true) else (if 0 ≤ (x1.length : Int) then (if ((x1.length : Int) : Int).toNat ≤ 35184372088832 then (epicyclelaw11_DftMoves.l0 k x1 x2 x7 x8 (x1.length : Int) (List.replicate ((x1.length : Int) : Int).toNat 0) x1 (x1.length : Int) 0) else (none)) else (none))
noncomputable def epicyclelaw11_DftMoves.l0 : Nat → List Int → Int → List (Fld) → Int → Int → List Int → List Int → Int → Int → Option (Bool)
 | 0, _, _, _, _, _, _, _, _, _ => none
 | k + 1, x1, x2, x7, x8, x10, x11, x46, x47, x48 => if x48 < x47 then (if 0 ≤ x48 then (if x48 < (x46.length : Int) then (if x10 = 0 then (none) else (if 0 ≤ (Int.tmod (wrap64 (x48 + x2)) x10) then (if (Int.tmod (wrap64 (x48 + x2)) x10) < (x11.length : Int) then (epicyclelaw11_DftMoves.l0 k x1 x2 x7 x8 x10 (x11.set ((Int.tmod (wrap64 (x48 + x2)) x10) : Int).toNat (rd x46 x48)) x46 x47 (wrap64 (x48 + 1))) else (none)) else (none))) else (none)) else (none)) else ((dft_Run.f k x7 x1 false).bind fun bt329 => ((dft_Run.f k x7 x11 false).bind fun bt333 => ((field_Field_Root.f x7 x10).bind fun bt337 => (if bt329.2 = 0 then (if bt333.2 = 0 then (if (bt329.1.length : Int) = x10 then (epicyclelaw11_DftMoves.j2 k x2 x8 bt329.1 bt333.1 bt337.1 ((bt333.1.length : Int) != x10)) else (epicyclelaw11_DftMoves.j2 k x2 x8 bt329.1 bt333.1 bt337.1 true)) else (epicyclelaw11_DftMoves.j2 k x2 x8 bt329.1 bt333.1 bt337.1 true)) else (epicyclelaw11_DftMoves.j2 k x2 x8 bt329.1 bt333.1 bt337.1 true)))))
noncomputable def epicyclelaw11_DftMoves.j2 : Nat → Int → Int → List Int → List Int → Int → Bool → Option (Bool)
 | 0, _, _, _, _, _, _ => none
 | k + 1, x2, x8, x14, x16, x18, x97 => if x97 = true then (some false) else (epicyclelaw11_DftMoves.l1 k x2 x8 x14 x16 x18 (x16.length : Int) 0)
noncomputable def epicyclelaw11_DftMoves.l1 : Nat → Int → Int → List Int → List Int → Int → Int → Int → Option (Bool)
 | 0, _, _, _, _, _, _, _ => none
 | k + 1, x2, x8, x14, x16, x18, x99, x100 => if x100 < x99 then (if 0 ≤ x100 then (if x100 < (x16.length : Int) then (if x100 < (x14.length : Int) then ((epicycleref02_Pow.f k x18 (IntKind.u64.wrap (wrap64 (x100 * x2))) x8).bind fun t341 => ((epicycleref02_Mul.f k (rd x14 x100) t341 x8).bind fun t342 => (if (rd x16 x100) = t342 then (epicyclelaw11_DftMoves.l1 k x2 x8 x14 x16 x18 x99 (wrap64 (x100 + 1))) else (some false)))) else (none)) else (none)) else (none)) else (some true)
end
noncomputable def epicyclelaw11_DftMoves.f (k : Nat) (a0_0 : Int) (a0_1 : Int) (a0_2 : Int) (l0_3 : List (S134)) (l1 : List Int) (a2 : Int) : Option (Bool) := (epicyclelaw11_alive.f k).bind fun t318 => (if t318 = true then ((epicyclelaw11_fit.f k a0_0 a0_1 a0_2 l0_3 l1 64).bind fun bt319 => (if bt319.2.2 = true then (if a2 < 0 then (epicyclelaw11_DftMoves.j0 k l1 a2 bt319.1 bt319.2.1 true) else (epicyclelaw11_DftMoves.j0 k l1 a2 bt319.1 bt319.2.1 (decide (a2 ≥ (l1.length : Int))))) else (epicyclelaw11_DftMoves.j0 k l1 a2 bt319.1 bt319.2.1 true))) else (some false))
set_option maxHeartbeats 8000000 in
set_option maxRecDepth 100000 in
theorem epicyclelaw11_DftMoves.calls (k : Nat) (a0_0 : Int) (a0_1 : Int) (a0_2 : Int) (A0_3 : Option Addr) (c0_3 : Nat) (l0_3 : List (S134)) (A1 : Option Addr) (c1 : Nat) (l1 : List Int) (a2 : Int) (w : World) (hr0_3 : Kd.C k134 w A0_3 l0_3.length l0_3) (hc0_3 : l0_3.length ≤ c0_3) (hr1 : Kd.C (Kd.int .u64) w A1 l1.length l1) (hc1 : l1.length ≤ c1) (h : epicyclelaw11_DftMoves.f k a0_0 a0_1 a0_2 l0_3 l1 a2 = some true) :
  Calls Tryz.prog 7 #[.agg #[.int .i64 a0_0, .int .i64 a0_1, .int .u64 a0_2, .slice A0_3 l0_3.length c0_3], .slice A1 l1.length c1, .int .i64 a2] w fun e w' => e = .returned (.bool true) ∧ Below w.heap.size w w' := by
 have hu25 := Tryz.underlying25
 have HR0_3 := Aside0.mk hr0_3
 have HC0_3 := Aside0.mk hc0_3
 clear hr0_3 hc0_3
 have HR1 := Aside0.mk hr1
 have HC1 := Aside0.mk hc1
 clear hr1 hc1
 have HB := Aside0.mk (Below.refl w.heap.size w)
 have H := h; unfold epicyclelaw11_DftMoves.f at H
 clear h
 replace H := Option.bind_eq_some_iff.mp H
 obtain ⟨t318, A40, H⟩ := H
 (try dsimp only at H)
 have A4 := Aside0.mk A40
 clear A40
 by_cases c5 : t318 = true
 ·subst c5
  have H1 := H; rw [if_pos rfl] at H1
  clear H
  have H := H1
  clear H1
  replace H := Option.bind_eq_some_iff.mp H
  obtain ⟨⟨t319, t322, t323⟩, A60, H⟩ := H
  (try dsimp only at H)
  have A6 := Aside0.mk A60
  clear A60
  have HC7 := Aside0.mk H
  clear H
  go_enter Tryz.func7, Tryz.ntmps7
  go_upto_region 4 with (first | ((with_reducible refine gate_dst (N := 3) rfl ?_); (try (refine gate_guard (by rfl) ?_; dsimp only)); refine box_event ?hg (N := 3) ?hd (cs := #[.int .i64 a0_0, .int .i64 a0_1, .int .u64 a0_2, .slice A0_3 l0_3.length c0_3]) (t := 25) ?hr ?_; (case hd => rfl); (case hg => rfl); (case hr => first | (go_simp; done) | (go_simp; rfl)); intro gb317 hg w8 hbox hb; have n0_ := Aside0.mk (below_step bel_ hb); have n1_ := Aside0.mk (hbox); have n2_ := Aside0.mk ((by rw [hg]; exact (below_size bel_) : w.heap.size ≤ gb317)); have n3_ := Aside0.mk ((by rw [hg]; exact (below_size bel_) : w.heap.size ≤ gb317)); clear HB; have HB := n0_; have BK317 := n1_; have GW317 := n2_; have GE317 := n3_; clear n0_ n1_ n2_ n3_; clear hb hbox hg) | (go_at_call 16; (with_reducible refine (epicyclelaw11_alive.calls k  true _ A4.out).mono ?_); rintro e w9 ⟨rfl, hb⟩; have n0_ := Aside0.mk (blk_below (g := gb317) (o := .cells #[.int .i64 a0_0, .int .i64 a0_1, .int .u64 a0_2, .slice A0_3 l0_3.length c0_3] 25 (0, 0)) (by (with_reducible repeat (first | refine blk_drewN ?_ _ | refine blk_drew ?_ | refine blk_alloc ?_ _)); exact BK317.out) hb); have n1_ := Aside0.mk (below_step bel_ hb); clear BK317; clear HB; have BK317 := n0_; have HB := n1_; clear n0_ n1_; (try clear hb); (try clear hb2); (try clear hk); (try clear hi); have hcz10_0 : w9.cell? ⟨gb317, 0, none⟩ = some (.int .i64 a0_0) := (blk_cell BK317.out 0).trans rfl; have hcz10_1 : w9.cell? ⟨gb317, 1, none⟩ = some (.int .i64 a0_1) := (blk_cell BK317.out 1).trans rfl; have hcz10_2 : w9.cell? ⟨gb317, 2, none⟩ = some (.int .u64 a0_2) := (blk_cell BK317.out 2).trans rfl; have hcz10_3 : w9.cell? ⟨gb317, 3, none⟩ = some (.slice A0_3 l0_3.length c0_3) := (blk_cell BK317.out 3).trans rfl; have hfz10_0 := blk_frozen BK317.out 0; have hfz10_1 := blk_frozen BK317.out 1; have hfz10_2 := blk_frozen BK317.out 2; have hfz10_3 := blk_frozen BK317.out 3) | (go_at_call 27; (with_reducible refine (epicyclelaw11_fit.calls k a0_0 a0_1 a0_2 _ _ l0_3 _ _ l1 64 t319 t322 t323 _ ?side1 ?side2 ?side3 ?side4 A6.out).mono ?_); (case side1 => repeat (first | exact (Kd.C_below HR0_3.out HB.out) | (with_reducible refine Kd.C_alloc ?_ _) | (with_reducible refine Kd.C_drewN ?_ _) | (with_reducible refine Kd.C_drew ?_))); (case side2 => exact HC0_3.out); (case side3 => repeat (first | exact (Kd.C_below HR1.out HB.out) | (with_reducible refine Kd.C_alloc ?_ _) | (with_reducible refine Kd.C_drewN ?_ _) | (with_reducible refine Kd.C_drew ?_))); (case side4 => exact HC1.out); rintro e w11 ⟨v320, rfl, ho0, hb⟩; have n0_ := Aside0.mk (Kd.R_lower ho0 (below_size bel_)); have n1_ := Aside0.mk (blk_below (g := gb317) (o := .cells #[.int .i64 a0_0, .int .i64 a0_1, .int .u64 a0_2, .slice A0_3 l0_3.length c0_3] 25 (0, 0)) (by (with_reducible repeat (first | refine blk_drewN ?_ _ | refine blk_drew ?_ | refine blk_alloc ?_ _)); exact BK317.out) hb); have n2_ := Aside0.mk (below_step bel_ hb); clear BK317; clear HB; have HO321 := n0_; have BK317 := n1_; have HB := n2_; clear n0_ n1_ n2_; (try clear hb); (try clear hb2); (try clear hk); (try clear hi); (try clear ho0)))
  (try simp only [Act.put, List.setIfInBounds_toArray, List.set_cons_zero, List.set_cons_succ])
  go_cut [41] (fun v41 wc => ∃ (kq : Nat) (x41_6 : Bool), v41 = .bool x41_6 ∧ Aside0 (epicyclelaw11_DftMoves.j0 kq l1 a2 t319 t322 x41_6 = some true) ∧ Aside0 (kq ≤ k) ∧ Aside0 (Kd.R kFld 97 wc w.heap.size (fun _ => True) v320 t319) ∧ Aside0 (wc.heap[gb317]? = some (.cells #[.int .i64 a0_0, .int .i64 a0_1, .int .u64 a0_2, (.slice A0_3 l0_3.length c0_3)] 25 (0, 0))) ∧ Aside0 (Below w.heap.size w wc))
  case first =>
   have H := HC7.out
   clear HC7
   by_cases c12 : t323 = true
   ·subst c12
    have H1 := H; rw [if_pos rfl] at H1
    clear H
    have H := H1
    clear H1
    by_cases c13 : a2 < 0
    ·rw [if_pos c13] at H
     have c13b0 := decide_eq_true c13
     clear c13
     (first | rw [c13b0] | (simp only [i64_w, i32_w]; rw [c13b0]) | skip)
     have H' := Aside0.mk H
     clear H
     go_wp2
     go_meet
     case rel => exact ⟨_, (true), (by first | rfl | (simp; done) | (simp [*]; done)), H', ⟨by first | omega | exact Nat.le_refl _⟩, ⟨by (with_reducible repeat (first | apply Kd.R_alloc | apply Kd.R_drewN | apply Kd.R_drew)); exact HO321.out⟩, ⟨by (with_reducible repeat (first | refine blk_drewN ?_ _ | refine blk_drew ?_ | refine blk_alloc ?_ _)); exact BK317.out⟩, ⟨bel_⟩⟩
    ·rw [if_neg c13] at H
     have c13b0 := decide_eq_false c13
     clear c13
     (first | rw [c13b0] | (simp only [i64_w, i32_w]; rw [c13b0]) | skip)
     have H' := Aside0.mk H
     clear H
     go_wp2
     go_meet
     case rel => exact ⟨_, (decide (a2 ≥ (l1.length : Int))), (by first | rfl | (simp; done) | (simp [*]; done)), H', ⟨by first | omega | exact Nat.le_refl _⟩, ⟨by (with_reducible repeat (first | apply Kd.R_alloc | apply Kd.R_drewN | apply Kd.R_drew)); exact HO321.out⟩, ⟨by (with_reducible repeat (first | refine blk_drewN ?_ _ | refine blk_drew ?_ | refine blk_alloc ?_ _)); exact BK317.out⟩, ⟨bel_⟩⟩
   ·replace c12 := Bool.eq_false_iff.mpr c12
    subst c12
    have H1 := H; rw [if_neg (show ¬ (false = true) by decide)] at H1
    clear H
    have H := H1
    clear H1
    have H' := Aside0.mk H
    clear H
    go_wp2
    go_meet
    case rel => exact ⟨_, (true), (by first | rfl | (simp; done) | (simp [*]; done)), H', ⟨by first | omega | exact Nat.le_refl _⟩, ⟨by (with_reducible repeat (first | apply Kd.R_alloc | apply Kd.R_drewN | apply Kd.R_drew)); exact HO321.out⟩, ⟨by (with_reducible repeat (first | refine blk_drewN ?_ _ | refine blk_drew ?_ | refine blk_alloc ?_ _)); exact BK317.out⟩, ⟨bel_⟩⟩
  case rest =>
   clear HC7
   try clear c1
   try clear p2
   try clear c5
   try clear c7
   try clear c12
   try clear c13
   try clear c13b0
   try clear hcz10_0
   try clear hcz10_1
   try clear hcz10_2
   try clear hcz10_3
   try clear hfz10_0
   try clear hfz10_1
   try clear hfz10_2
   try clear hfz10_3
   obtain ⟨kq, x41_6, rfl, HA, HJ6, HO_7, BK317, HB⟩ := hcut
   cases kq with
   | zero => exact absurd HA.out (by simp [epicyclelaw11_DftMoves.j0])
   | succ kj6 =>
    have H := HA.out
    clear HA
    simp only [epicyclelaw11_DftMoves.j0] at H
    by_cases c14 : x41_6 = true
    ·subst c14
     have H1 := H; rw [if_pos rfl] at H1
     clear H
     have H := H1
     clear H1
     clear H
     go_wp2
     go_ret
     exact ⟨by first | rfl | (simp [errW_none, errW_some] <;> rfl) | (simp [*, errW_none, errW_some] <;> rfl), bel_⟩
    ·replace c14 := Bool.eq_false_iff.mpr c14
     subst c14
     have H1 := H; rw [if_neg (show ¬ (false = true) by decide)] at H1
     clear H
     have H := H1
     clear H1
     by_cases c15 : 0 ≤ (l1.length : Int)
     ·rw [if_pos c15] at H
      have c15b0 := eq_true c15
      have c15b1 := decide_eq_true c15
      clear c15
      by_cases c16 : ((l1.length : Int) : Int).toNat ≤ 35184372088832
      ·rw [if_pos c16] at H
       have c16b0 := eq_true c16
       have c16b1 := decide_eq_true c16
       clear c16
       obtain ⟨y324, hy324⟩ : ∃ y_ : List Int, y_ = (List.replicate ((l1.length : Int) : Int).toNat 0) := ⟨_, rfl⟩
       replace H : (epicyclelaw11_DftMoves.l0 kj6 l1 a2 t319 t322 (l1.length : Int) y324 l1 (l1.length : Int) 0) = some true := by first | (rw [hy324]; with_reducible exact H) | (have H2_ := (Option.bind_some _ _).symm.trans H; rw [hy324]; with_reducible exact H2_) | (have H2_ := (Option.bind_some _ _).symm.trans H; with_reducible exact H2_) | with_reducible exact H | (rw [hy324]; exact H) | exact H
       have Ny324 := Aside0.mk hy324
       clear hy324
       have H' := Aside0.mk H
       clear H
       go_wp2_with (first | ((with_reducible refine gate_dst (N := 45) rfl ?_); (try (refine gate_guard (by rfl) ?_; dsimp only)); refine Kd.R_make (Kd.int .u64) _ 22 rfl (N := 45) rfl 26 _ _ rfl (l1.length : Int) rfl rfl Tryz.underlying26 (.int .u64 0) 8 info22 rfl (by decide) (by omega) 0 (ok := fun _ => True) (okp := fun _ => True) rfl (fun _ hk => hk) trivial (of_decide_eq_true (by assumption)) (Nat.le_trans (Nat.mul_le_mul_right _ (of_decide_eq_true (by assumption) : (l1.length : Int).toNat ≤ 35184372088832)) (by omega)) (Below.refl _ _) (Nat.le_refl _) ?_; intro v325 w17 ho18 hb hg_ hnew_; clear hg_ hnew_; (first | rw [← Ny324.out] at ho18 | (simp only [Int.reduceToNat] at ho18; rw [← Ny324.out] at ho18)); have n0_ := Aside0.mk (Kd.R_below (by (with_reducible repeat (first | apply Kd.R_alloc | apply Kd.R_drewN | apply Kd.R_drew)); exact HO_7.out) hb); have n1_ := Aside0.mk (Kd.R_lower ho18 (below_size bel_)); have n2_ := Aside0.mk (blk_below (g := gb317) (o := .cells #[.int .i64 a0_0, .int .i64 a0_1, .int .u64 a0_2, .slice A0_3 l0_3.length c0_3] 25 (0, 0)) (by (with_reducible repeat (first | refine blk_drewN ?_ _ | refine blk_drew ?_ | refine blk_alloc ?_ _)); exact BK317.out) hb); have n3_ := Aside0.mk (below_step bel_ hb); clear HO_7; clear BK317; clear HB; have HO_7 := n0_; have HO326 := n1_; have BK317 := n2_; have HB := n3_; clear n0_ n1_ n2_ n3_; clear hb ho18))
       go_loopg [48] kj6 (fun kq v48 w' => ∃ (x11_2 : List Int) (x48_2 : Int), v48 = .int .i64 x48_2 ∧ Aside0 (epicyclelaw11_DftMoves.l0 kq l1 a2 t319 t322 (l1.length : Int) x11_2 l1 (l1.length : Int) x48_2 = some true) ∧ Aside0 (kq ≤ kj6) ∧ Aside0 (Kd.R kFld 97 w' w.heap.size (fun _ => True) v320 t319) ∧ Aside0 (Kd.R (Kd.int .u64) 22 w' w.heap.size (fun _ => True) v325 x11_2) ∧ Aside0 (w'.heap[gb317]? = some (.cells #[.int .i64 a0_0, .int .i64 a0_1, .int .u64 a0_2, (.slice A0_3 l0_3.length c0_3)] 25 (0, 0))) ∧ Aside0 (Below w.heap.size w w'))
       case atStart => exact ⟨(y324), (0), (by first | rfl | (simp; done) | (simp [*]; done)), H', ⟨Nat.le_refl _⟩, ⟨by (with_reducible repeat (first | apply Kd.R_alloc | apply Kd.R_drewN | apply Kd.R_drew)); exact HO_7.out⟩, ⟨by (with_reducible repeat (first | apply Kd.R_alloc | apply Kd.R_drewN | apply Kd.R_drew)); exact HO326.out⟩, ⟨by (with_reducible repeat (first | refine blk_drewN ?_ _ | refine blk_drew ?_ | refine blk_alloc ?_ _)); exact BK317.out⟩, ⟨bel_⟩⟩
       case round =>
        clear H'
        try clear c1
        try clear p2
        try clear c5
        try clear c7
        try clear c12
        try clear c13
        try clear c13b0
        try clear c14
        try clear c15
        try clear c15b0
        try clear c15b1
        try clear c16
        try clear c16b0
        try clear c16b1
        try clear hcz10_0
        try clear hcz10_1
        try clear hcz10_2
        try clear hcz10_3
        try clear hfz10_0
        try clear hfz10_1
        try clear hfz10_2
        try clear hfz10_3
        try clear p2
        obtain ⟨x11_2, x48_2, rfl, HA, HK2, HO_7, HO_11, BK317, HB⟩ := hrel
        cases gk with
        | zero => exact absurd HA.out (by simp [epicyclelaw11_DftMoves.l0])
        | succ k2 =>
         have H := HA.out
         clear HA
         simp only [epicyclelaw11_DftMoves.l0] at H
         by_cases c19 : x48_2 < (l1.length : Int)
         ·rw [if_pos c19] at H
          have c19b0 := decide_eq_true c19
          clear c19
          by_cases c20 : 0 ≤ x48_2
          ·rw [if_pos c20] at H
           have c20b0 := decide_eq_true c20
           clear c20
           by_cases c21 : x48_2 < (l1.length : Int)
           ·rw [if_pos c21] at H
            have c21b0 := decide_eq_true c21
            clear c21
            by_cases c22 : (l1.length : Int) = 0
            ·rw [if_pos c22] at H
             exact absurd H (by simp)
            ·rw [if_neg c22] at H
             have c22b0 := beq_eq_false_iff_ne.mpr c22
             have c22b1 := bne_iff_ne.mpr c22
             have c22b2 : ¬ (l1 = []) := fun h_ => c22 (by rw [h_]; rfl)
             obtain ⟨ji23, hji23⟩ : ∃ j_ : Int, (Int.tmod (wrap64 (x48_2 + a2)) (l1.length : Int)) = j_ := ⟨_, rfl⟩
             (first | rw [hji23] at H | simp only [hji23] at H)
             have hji23v : (Int.tmod (IntKind.i64.wrap (x48_2 + a2)) (l1.length : Int)) = ji23 := by simp only [i64_w]; exact hji23
             by_cases c24 : 0 ≤ (ji23)
             ·rw [if_pos c24] at H
              have c24b0 := decide_eq_true c24
              clear c24
              by_cases c25 : (ji23) < (x11_2.length : Int)
              ·rw [if_pos c25] at H
               have c25b0 := decide_eq_true c25
               clear c25
               obtain ⟨y328, hy328⟩ : ∃ y_ : List Int, y_ = (x11_2.set ((ji23) : Int).toNat (rd l1 x48_2)) := ⟨_, rfl⟩
               replace H : (epicyclelaw11_DftMoves.l0 k2 l1 a2 t319 t322 (l1.length : Int) y328 l1 (l1.length : Int) (wrap64 (x48_2 + 1))) = some true := by first | (rw [hy328]; with_reducible exact H) | (have H2_ := (Option.bind_some _ _).symm.trans H; rw [hy328]; with_reducible exact H2_) | (have H2_ := (Option.bind_some _ _).symm.trans H; with_reducible exact H2_) | with_reducible exact H | (rw [hy328]; exact H) | exact H
               have Ny328 := Aside0.mk hy328
               clear hy328
               have H' := Aside0.mk H
               clear H
               have p327 : 0 ≤ (x48_2 : Int) := of_decide_eq_true (by assumption)
               have q327 : x48_2 < (l1.length : Int) := of_decide_eq_true (by assumption)
               obtain ⟨ad327, e327, hx327_0⟩ := Kd.at_int HR1.out x48_2 p327 q327
               cases e327
               replace hx327_0 := (HB.out.cell (World.block_lt_of_cell? w _ hx327_0)).trans hx327_0
               replace p327 := eq_true p327
               replace q327 := eq_true q327
               have p26 : 0 ≤ ((ji23) : Int) := of_decide_eq_true (by assumption)
               have q26 : ((ji23) : Int) < ((x11_2.length : Int) : Int) := of_decide_eq_true (by assumption)
               obtain ⟨go26, co26, eo26, gb26, gl26, cl26, HG26⟩ := Kd.R_form HO_11.out (by omega)
               (first | cases eo26 | (injection eo26 with ea_ en_ ec_; (first | subst ea_ | (injection ea_ with ea_; subst ea_)); subst ec_; clear en_))
               have GB26 := Aside0.mk gb26
               have GG26 := Aside0.mk HG26
               clear gb26 gl26 HG26
               obtain ⟨hx26_0, hf26_0⟩ := Kd.R_celln 0 HO_11.out ((ji23) : Int) p26 q26
               replace p26 := eq_true p26
               replace q26 := eq_true q26
               have HP27 := Kd.R_putg HO_11.out ((ji23) : Int) (rd l1 x48_2)
               go_wp2_with (first | ((with_reducible refine gate_store (t := 22) (p := 60) rfl ?_); (try (rw [drewN_self wr]; generalize hq_ : World.drewN wr _ = wr; have n0_ := Aside0.mk (Kd.R_at hq_ HO_7.out); have n1_ := Aside0.mk (Kd.R_at hq_ HO_11.out); have n2_ := Aside0.mk (blk_at hq_ BK317.out); have n3_ := Aside0.mk (below_at hq_ HB.out); clear hq_ HO_7 HO_11 BK317 HB; have HO_7 := n0_; have HO_11 := n1_; have BK317 := n2_; have HB := n3_; clear n0_ n1_ n2_ n3_; (try (have HP27 := Kd.R_putg HO_11.out ((ji23) : Int) (rd l1 x48_2))))); refine store_event (t := 22) (p := 60) (v := ?vo_w28) (w1 := (wr.setCell ⟨go26, ((ji23) : Int).toNat, none⟩ (.int .u64 (rd l1 x48_2)))) ?hg ?ho ?hn ?hr ?_; (case ho => rfl); (case hg => rfl); (case hn => rfl); (case hr => first | (go_simp; done) | (go_simp; rfl)); intro w28 hw; have hg : wr.grownBy w28 (some go26) := (by rw [hw]; exact HP27.2); have hp_ : Kd.R (Kd.int .u64) 22 w28 w.heap.size (fun _ => True) (.slice (some ⟨go26, 0, none⟩) x11_2.length co26) y328 := (by rw [hw, Ny328.out]; exact HP27.1); clear HP27; have n0_ := Aside0.mk (Kd.R_over' (v := (.slice (some ⟨go26, 0, none⟩) x11_2.length co26)) (by (with_reducible repeat (first | apply Kd.R_alloc | apply Kd.R_drewN | apply Kd.R_drew)); exact HO_7.out) (Kd.R_typed HO_11.out) (by decide) hg); have n1_ := Aside0.mk (hp_); have n2_ := Aside0.mk (blk_grown (g := gb317) (o := .cells #[.int .i64 a0_0, .int .i64 a0_1, .int .u64 a0_2, .slice A0_3 l0_3.length c0_3] 25 (0, 0)) (by (with_reducible repeat (first | refine blk_drewN ?_ _ | refine blk_drew ?_ | refine blk_alloc ?_ _)); exact BK317.out) hg (Kd.R_ne HO_11.out BK317.out (by decide))); have n3_ := Aside0.mk ((by rw [hw]; exact below_set (HB.out) GB26.out : Below w.heap.size w w28)); clear HO_7; clear HO_11; clear BK317; clear HB; have HO_7 := n0_; have HO_11 := n1_; have BK317 := n2_; have HB := n3_; clear n0_ n1_ n2_ n3_; clear hg hw hp_))
               go_roundg k2
               case measure => have := HJ6.out; have := HK2.out; omega
               case rel => exact ⟨(y328), (wrap64 (x48_2 + 1)), (by first | rfl | (simp; done) | (simp [*]; done)), H', ⟨by have := HJ6.out; have := HK2.out; omega⟩, ⟨by (with_reducible repeat (first | apply Kd.R_alloc | apply Kd.R_drewN | apply Kd.R_drew)); exact HO_7.out⟩, ⟨by (with_reducible repeat (first | apply Kd.R_alloc | apply Kd.R_drewN | apply Kd.R_drew)); exact HO_11.out⟩, ⟨by (with_reducible repeat (first | refine blk_drewN ?_ _ | refine blk_drew ?_ | refine blk_alloc ?_ _)); exact BK317.out⟩, ⟨bel_⟩⟩
              ·rw [if_neg c25] at H
               exact absurd H (by simp)
             ·rw [if_neg c24] at H
              exact absurd H (by simp)
           ·rw [if_neg c21] at H
            exact absurd H (by simp)
          ·rw [if_neg c20] at H
           exact absurd H (by simp)
         ·rw [if_neg c19] at H
          have c19b0 := decide_eq_false c19
          clear c19
          replace H := Option.bind_eq_some_iff.mp H
          obtain ⟨⟨t329, t330⟩, A290, H⟩ := H
          (try dsimp only at H)
          have A29 := Aside0.mk A290
          clear A290
          replace H := Option.bind_eq_some_iff.mp H
          obtain ⟨⟨t333, t334⟩, A300, H⟩ := H
          (try dsimp only at H)
          have A30 := Aside0.mk A300
          clear A300
          replace H := Option.bind_eq_some_iff.mp H
          obtain ⟨⟨t337, t338⟩, A310, H⟩ := H
          (try dsimp only at H)
          have A31 := Aside0.mk A310
          clear A310
          have HC32 := Aside0.mk H
          clear H
          obtain ⟨Ao33, co33, eo33⟩ := Kd.R_slice HO_7.out
          subst eo33
          go_upto_region 16 with (first | (go_at_call 18; (try rw [← hT_HO_7]); (with_reducible refine (dft_Run.calls k2 _ _ t319 _ _ l1 false t329 t330 _ ?side1 ?side2 ?side3 ?side4 A29.out).mono ?_); (case side1 => repeat (first | exact (Kd.R_reads' HO_7.out).2.2 | (with_reducible refine Kd.C_alloc ?_ _) | (with_reducible refine Kd.C_drewN ?_ _) | (with_reducible refine Kd.C_drew ?_))); (case side2 => exact (Kd.R_reads' HO_7.out).2.1); (case side3 => repeat (first | exact (Kd.C_below HR1.out HB.out) | (with_reducible refine Kd.C_alloc ?_ _) | (with_reducible refine Kd.C_drewN ?_ _) | (with_reducible refine Kd.C_drew ?_))); (case side4 => exact HC1.out); rintro e w34 ⟨v331, rfl, ho0, hb⟩; have n0_ := Aside0.mk (Kd.R_below (by (with_reducible repeat (first | apply Kd.R_alloc | apply Kd.R_drewN | apply Kd.R_drew)); exact HO_7.out) hb); have n1_ := Aside0.mk (Kd.R_elder' (by (with_reducible repeat (first | apply Kd.R_alloc | apply Kd.R_drewN | apply Kd.R_drew)); exact HO_11.out) (Kd.R_base ho0) hb); have n2_ := Aside0.mk (Kd.R_lower (Kd.R_new' ho0 (Kd.R_lt (by (with_reducible repeat (first | apply Kd.R_alloc | apply Kd.R_drewN | apply Kd.R_drew)); exact HO_11.out))) (below_size bel_)); have n3_ := Aside0.mk (blk_below (g := gb317) (o := .cells #[.int .i64 a0_0, .int .i64 a0_1, .int .u64 a0_2, .slice A0_3 l0_3.length c0_3] 25 (0, 0)) (by (with_reducible repeat (first | refine blk_drewN ?_ _ | refine blk_drew ?_ | refine blk_alloc ?_ _)); exact BK317.out) hb); have n4_ := Aside0.mk (below_step bel_ hb); clear HO_7; clear HO_11; clear BK317; clear HB; have HO_7 := n0_; have HO_11 := n1_; have HO332 := n2_; have BK317 := n3_; have HB := n4_; clear n0_ n1_ n2_ n3_ n4_; (try clear hb); (try clear hb2); (try clear hk); (try clear hi); (try clear ho0); obtain ⟨Ao35, co35, eo35⟩ := Kd.R_slice HO_11.out; subst eo35) | (go_at_call 18; (try rw [← hT_HO_7]); (with_reducible refine (dft_Run.calls k2 _ _ t319 _ _ x11_2 false t333 t334 _ ?side1 ?side2 ?side3 ?side4 A30.out).mono ?_); (case side1 => repeat (first | exact (Kd.R_reads' HO_7.out).2.2 | (with_reducible refine Kd.C_alloc ?_ _) | (with_reducible refine Kd.C_drewN ?_ _) | (with_reducible refine Kd.C_drew ?_))); (case side2 => exact (Kd.R_reads' HO_7.out).2.1); (case side3 => repeat (first | exact (Kd.R_reads' HO_11.out).2.2 | (with_reducible refine Kd.C_alloc ?_ _) | (with_reducible refine Kd.C_drewN ?_ _) | (with_reducible refine Kd.C_drew ?_))); (case side4 => exact (Kd.R_reads' HO_11.out).2.1); rintro e w36 ⟨v335, rfl, ho0, hb⟩; have n0_ := Aside0.mk (Kd.R_below (by (with_reducible repeat (first | apply Kd.R_alloc | apply Kd.R_drewN | apply Kd.R_drew)); exact HO_7.out) hb); have n1_ := Aside0.mk (Kd.R_elder' (by (with_reducible repeat (first | apply Kd.R_alloc | apply Kd.R_drewN | apply Kd.R_drew)); exact HO_11.out) (Kd.R_base ho0) hb); have n2_ := Aside0.mk (Kd.R_elder' (by (with_reducible repeat (first | apply Kd.R_alloc | apply Kd.R_drewN | apply Kd.R_drew)); exact HO332.out) (Kd.R_base ho0) hb); have n3_ := Aside0.mk (Kd.R_lower (Kd.R_new' (Kd.R_new' ho0 (Kd.R_lt (by (with_reducible repeat (first | apply Kd.R_alloc | apply Kd.R_drewN | apply Kd.R_drew)); exact HO_11.out))) (Kd.R_lt (by (with_reducible repeat (first | apply Kd.R_alloc | apply Kd.R_drewN | apply Kd.R_drew)); exact HO332.out))) (below_size bel_)); have n4_ := Aside0.mk (blk_below (g := gb317) (o := .cells #[.int .i64 a0_0, .int .i64 a0_1, .int .u64 a0_2, .slice A0_3 l0_3.length c0_3] 25 (0, 0)) (by (with_reducible repeat (first | refine blk_drewN ?_ _ | refine blk_drew ?_ | refine blk_alloc ?_ _)); exact BK317.out) hb); have n5_ := Aside0.mk (below_step bel_ hb); clear HO_7; clear HO_11; clear HO332; clear BK317; clear HB; have HO_7 := n0_; have HO_11 := n1_; have HO332 := n2_; have HO336 := n3_; have BK317 := n4_; have HB := n5_; clear n0_ n1_ n2_ n3_ n4_ n5_; (try clear hb); (try clear hb2); (try clear hk); (try clear hi); (try clear ho0)) | (go_at_call 29; (try rw [← hT_HO_7]); (with_reducible refine (field_Field_Root.calls _ _ t319 (l1.length : Int) t337 t338 _ ?side1 ?side2 A31.out).mono ?_); (case side1 => repeat (first | exact (Kd.R_reads' HO_7.out).2.2 | (with_reducible refine Kd.C_alloc ?_ _) | (with_reducible refine Kd.C_drewN ?_ _) | (with_reducible refine Kd.C_drew ?_))); (case side2 => exact (Kd.R_reads' HO_7.out).2.1); rintro e w' ⟨rfl, ⟨nd, rfl⟩⟩; (try first | exact ⟨rfl, _, World.drewN_drewN _ _ _⟩ | exact ⟨rfl, _, Eq.trans (World.drewN_drewN _ _ _) (congrArg (World.drewN _) (Nat.add_assoc _ _ _))⟩)))
          (try simp only [Act.put, List.setIfInBounds_toArray, List.set_cons_zero, List.set_cons_succ])
          go_cut [97] (fun v97 wc => ∃ (kq : Nat) (x97_31 : Bool), v97 = .bool x97_31 ∧ Aside0 (epicyclelaw11_DftMoves.j2 kq a2 t322 t329 t333 t337 x97_31 = some true) ∧ Aside0 (kq ≤ k2) ∧ Aside0 (Kd.R (Kd.int .u64) 22 wc w.heap.size (fun k_ => some k_ ≠ (v335 : Value).ownBlock) v331 t329) ∧ Aside0 (Kd.R (Kd.int .u64) 22 wc w.heap.size (fun k_ => some k_ ≠ (v331 : Value).ownBlock) v335 t333) ∧ Aside0 (wc.heap[gb317]? = some (.cells #[.int .i64 a0_0, .int .i64 a0_1, .int .u64 a0_2, (.slice A0_3 l0_3.length c0_3)] 25 (0, 0))) ∧ Aside0 (Below w.heap.size w wc))
          case first =>
           have H := HC32.out
           clear HC32
           by_cases c37 : t330 = 0
           ·rw [if_pos c37] at H
            have c37b0 := beq_iff_eq.mpr c37
            have c37b1 := bne_eq_false_iff_eq.mpr c37
            clear c37
            (first | rw [c37b0] | (simp only [i64_w, i32_w]; rw [c37b0]) | skip)
            by_cases c38 : t334 = 0
            ·rw [if_pos c38] at H
             have c38b0 := beq_iff_eq.mpr c38
             have c38b1 := bne_eq_false_iff_eq.mpr c38
             clear c38
             by_cases c39 : (t329.length : Int) = (l1.length : Int)
             ·rw [if_pos c39] at H
              have c39b0 := beq_iff_eq.mpr c39
              have c39b1 := bne_eq_false_iff_eq.mpr c39
              have c39b2 : (t329.length == l1.length) = true := by first | simpa using c39 | (simp at c39 ⊢; omega)
              clear c39
              have H' := Aside0.mk H
              clear H
              obtain ⟨Ao40, co40, eo40⟩ := Kd.R_slice HO332.out
              subst eo40
              obtain ⟨Ao41, co41, eo41⟩ := Kd.R_slice HO336.out
              subst eo41
              go_wp2
              go_meet
              case rel => exact ⟨_, (((t333.length : Int) != (l1.length : Int))), (by first | rfl | (simp; done) | (simp [*]; done)), H', ⟨by have := HJ6.out; have := HK2.out; first | omega | exact Nat.le_refl _⟩, ⟨by (with_reducible repeat (first | apply Kd.R_alloc | apply Kd.R_drewN | apply Kd.R_drew)); exact Kd.R_mono HO332.out (fun _ hk => hk.2)⟩, ⟨by (with_reducible repeat (first | apply Kd.R_alloc | apply Kd.R_drewN | apply Kd.R_drew)); exact Kd.R_mono HO336.out (fun _ hk => hk.2)⟩, ⟨by (with_reducible repeat (first | refine blk_drewN ?_ _ | refine blk_drew ?_ | refine blk_alloc ?_ _)); exact BK317.out⟩, ⟨bel_⟩⟩
             ·rw [if_neg c39] at H
              have c39b0 := beq_eq_false_iff_ne.mpr c39
              have c39b1 := bne_iff_ne.mpr c39
              have c39b2 : (t329.length == l1.length) = false := by first | simpa using c39 | (simp at c39 ⊢; omega)
              have H' := Aside0.mk H
              clear H
              obtain ⟨Ao42, co42, eo42⟩ := Kd.R_slice HO332.out
              subst eo42
              go_wp2
              go_meet
              case rel => exact ⟨_, (true), (by first | rfl | (simp; done) | (simp [*]; done)), H', ⟨by have := HJ6.out; have := HK2.out; first | omega | exact Nat.le_refl _⟩, ⟨by (with_reducible repeat (first | apply Kd.R_alloc | apply Kd.R_drewN | apply Kd.R_drew)); exact Kd.R_mono HO332.out (fun _ hk => hk.2)⟩, ⟨by (with_reducible repeat (first | apply Kd.R_alloc | apply Kd.R_drewN | apply Kd.R_drew)); exact Kd.R_mono HO336.out (fun _ hk => hk.2)⟩, ⟨by (with_reducible repeat (first | refine blk_drewN ?_ _ | refine blk_drew ?_ | refine blk_alloc ?_ _)); exact BK317.out⟩, ⟨bel_⟩⟩
            ·rw [if_neg c38] at H
             have c38b0 := beq_eq_false_iff_ne.mpr c38
             have c38b1 := bne_iff_ne.mpr c38
             have H' := Aside0.mk H
             clear H
             go_wp2
             go_meet
             case rel => exact ⟨_, (true), (by first | rfl | (simp; done) | (simp [*]; done)), H', ⟨by have := HJ6.out; have := HK2.out; first | omega | exact Nat.le_refl _⟩, ⟨by (with_reducible repeat (first | apply Kd.R_alloc | apply Kd.R_drewN | apply Kd.R_drew)); exact Kd.R_mono HO332.out (fun _ hk => hk.2)⟩, ⟨by (with_reducible repeat (first | apply Kd.R_alloc | apply Kd.R_drewN | apply Kd.R_drew)); exact Kd.R_mono HO336.out (fun _ hk => hk.2)⟩, ⟨by (with_reducible repeat (first | refine blk_drewN ?_ _ | refine blk_drew ?_ | refine blk_alloc ?_ _)); exact BK317.out⟩, ⟨bel_⟩⟩
           ·rw [if_neg c37] at H
            have c37b0 := beq_eq_false_iff_ne.mpr c37
            have c37b1 := bne_iff_ne.mpr c37
            (first | rw [c37b0] | (simp only [i64_w, i32_w]; rw [c37b0]) | skip)
            have H' := Aside0.mk H
            clear H
            go_wp2
            go_meet
            case rel => exact ⟨_, (true), (by first | rfl | (simp; done) | (simp [*]; done)), H', ⟨by have := HJ6.out; have := HK2.out; first | omega | exact Nat.le_refl _⟩, ⟨by (with_reducible repeat (first | apply Kd.R_alloc | apply Kd.R_drewN | apply Kd.R_drew)); exact Kd.R_mono HO332.out (fun _ hk => hk.2)⟩, ⟨by (with_reducible repeat (first | apply Kd.R_alloc | apply Kd.R_drewN | apply Kd.R_drew)); exact Kd.R_mono HO336.out (fun _ hk => hk.2)⟩, ⟨by (with_reducible repeat (first | refine blk_drewN ?_ _ | refine blk_drew ?_ | refine blk_alloc ?_ _)); exact BK317.out⟩, ⟨bel_⟩⟩
          case rest =>
           clear HC32
           try clear c1
           try clear c2
           try clear p2
           try clear q2
           try clear hx2
           try clear c3
           try clear p3
           try clear q3
           try clear hx3
           try clear c5
           try clear p6
           try clear c7
           try clear c12
           try clear c13
           try clear c13b0
           try clear c14
           try clear c15
           try clear c15b0
           try clear c15b1
           try clear c16
           try clear c16b0
           try clear c16b1
           try clear c19
           try clear c19b0
           try clear c20
           try clear c20b0
           try clear c21
           try clear c21b0
           try clear c22
           try clear c22b0
           try clear c22b1
           try clear c22b2
           try clear c24
           try clear c24b0
           try clear c25
           try clear c25b0
           try clear p26
           try clear q26
           try clear hx26
           try clear hf26
           try clear p32
           try clear q32
           try clear hx32
           try clear c37
           try clear c37b0
           try clear c37b1
           try clear c38
           try clear c38b0
           try clear c38b1
           try clear c39
           try clear c39b0
           try clear c39b1
           try clear c39b2
           try clear hcz10_0
           try clear hcz10_1
           try clear hcz10_2
           try clear hcz10_3
           try clear hfz10_0
           try clear hfz10_1
           try clear hfz10_2
           try clear hfz10_3
           try clear hx26_0
           try clear hx327_0
           try clear p2
           try clear p26
           try clear p327
           try clear q26
           try clear q327
           obtain ⟨kq, x97_31, rfl, HA, HJ31, HO_14, HO_16, BK317, HB⟩ := hcut
           cases kq with
           | zero => exact absurd HA.out (by simp [epicyclelaw11_DftMoves.j2])
           | succ kj31 =>
            have H := HA.out
            clear HA
            simp only [epicyclelaw11_DftMoves.j2] at H
            by_cases c43 : x97_31 = true
            ·subst c43
             have H1 := H; rw [if_pos rfl] at H1
             clear H
             have H := H1
             clear H1
             exact absurd H (by simp)
            ·replace c43 := Bool.eq_false_iff.mpr c43
             subst c43
             have H1 := H; rw [if_neg (show ¬ (false = true) by decide)] at H1
             clear H
             have H := H1
             clear H1
             have H' := Aside0.mk H
             clear H
             obtain ⟨Ao44, co44, eo44⟩ := Kd.R_slice HO_16.out
             subst eo44
             go_wp2
             go_loopg [100] kj31 (fun kq v100 w' => ∃ (x100_4 : Int), v100 = .int .i64 x100_4 ∧ Aside0 (epicyclelaw11_DftMoves.l1 kq a2 t322 t329 t333 t337 (t333.length : Int) x100_4 = some true) ∧ Aside0 (kq ≤ kj31) ∧ Aside0 (Kd.R (Kd.int .u64) 22 w' w.heap.size (fun k_ => some k_ ≠ ((.slice Ao44 t333.length co44) : Value).ownBlock) v331 t329) ∧ Aside0 (Kd.R (Kd.int .u64) 22 w' w.heap.size (fun k_ => some k_ ≠ (v331 : Value).ownBlock) (.slice Ao44 t333.length co44) t333) ∧ Aside0 (w'.heap[gb317]? = some (.cells #[.int .i64 a0_0, .int .i64 a0_1, .int .u64 a0_2, (.slice A0_3 l0_3.length c0_3)] 25 (0, 0))) ∧ Aside0 (Below w.heap.size w w'))
             case atStart => exact ⟨(0), (by first | rfl | (simp; done) | (simp [*]; done)), H', ⟨Nat.le_refl _⟩, ⟨by (with_reducible repeat (first | apply Kd.R_alloc | apply Kd.R_drewN | apply Kd.R_drew)); exact HO_14.out⟩, ⟨by (with_reducible repeat (first | apply Kd.R_alloc | apply Kd.R_drewN | apply Kd.R_drew)); exact HO_16.out⟩, ⟨by (with_reducible repeat (first | refine blk_drewN ?_ _ | refine blk_drew ?_ | refine blk_alloc ?_ _)); exact BK317.out⟩, ⟨bel_⟩⟩
             case round =>
              clear H'
              try clear c1
              try clear c2
              try clear p2
              try clear q2
              try clear hx2
              try clear c3
              try clear p3
              try clear q3
              try clear hx3
              try clear c4
              try clear c5
              try clear p6
              try clear c7
              try clear c12
              try clear c13
              try clear c13b0
              try clear c14
              try clear c15
              try clear c15b0
              try clear c15b1
              try clear c16
              try clear c16b0
              try clear c16b1
              try clear c19
              try clear c19b0
              try clear c20
              try clear c20b0
              try clear c21
              try clear c21b0
              try clear c22
              try clear c22b0
              try clear c22b1
              try clear c22b2
              try clear c24
              try clear c24b0
              try clear c25
              try clear c25b0
              try clear p26
              try clear q26
              try clear hx26
              try clear hf26
              try clear p32
              try clear q32
              try clear hx32
              try clear c37
              try clear c37b0
              try clear c37b1
              try clear c38
              try clear c38b0
              try clear c38b1
              try clear c39
              try clear c39b0
              try clear c39b1
              try clear c39b2
              try clear c43
              try clear hcz10_0
              try clear hcz10_1
              try clear hcz10_2
              try clear hcz10_3
              try clear hfz10_0
              try clear hfz10_1
              try clear hfz10_2
              try clear hfz10_3
              try clear hx26_0
              try clear hx327_0
              try clear p2
              try clear p26
              try clear p3
              try clear p32
              try clear p327
              try clear p6
              try clear q2
              try clear q26
              try clear q3
              try clear q32
              try clear q327
              obtain ⟨x100_4, rfl, HA, HK4, HO_14, HO_16, BK317, HB⟩ := hrel
              cases gk with
              | zero => exact absurd HA.out (by simp [epicyclelaw11_DftMoves.l1])
              | succ k4 =>
               have H := HA.out
               clear HA
               simp only [epicyclelaw11_DftMoves.l1] at H
               by_cases c45 : x100_4 < (t333.length : Int)
               ·rw [if_pos c45] at H
                have c45b0 := decide_eq_true c45
                clear c45
                by_cases c46 : 0 ≤ x100_4
                ·rw [if_pos c46] at H
                 have c46b0 := decide_eq_true c46
                 clear c46
                 by_cases c47 : x100_4 < (t333.length : Int)
                 ·rw [if_pos c47] at H
                  have c47b0 := decide_eq_true c47
                  clear c47
                  by_cases c48 : x100_4 < (t329.length : Int)
                  ·rw [if_pos c48] at H
                   have c48b0 := decide_eq_true c48
                   clear c48
                   replace H := Option.bind_eq_some_iff.mp H
                   obtain ⟨t341, A490, H⟩ := H
                   (try dsimp only at H)
                   have A49 := Aside0.mk A490
                   clear A490
                   replace H := Option.bind_eq_some_iff.mp H
                   obtain ⟨t342, A500, H⟩ := H
                   (try dsimp only at H)
                   have A50 := Aside0.mk A500
                   clear A500
                   by_cases c51 : (rd t333 x100_4) = t342
                   ·rw [if_pos c51] at H
                    have c51b0 := beq_iff_eq.mpr c51
                    have c51b1 := bne_eq_false_iff_eq.mpr c51
                    clear c51
                    have H' := Aside0.mk H
                    clear H
                    have p339 : 0 ≤ (x100_4 : Int) := of_decide_eq_true (by assumption)
                    have q339 : x100_4 < (t333.length : Int) := of_decide_eq_true (by assumption)
                    obtain ⟨ad339, e339, hx339_0⟩ := Kd.at_int (Kd.R_reads' HO_16.out).2.2 x100_4 p339 q339
                    cases e339
                    replace p339 := eq_true p339
                    replace q339 := eq_true q339
                    obtain ⟨Ao52, co52, eo52⟩ := Kd.R_slice HO_14.out
                    subst eo52
                    have p340 : 0 ≤ (x100_4 : Int) := of_decide_eq_true (by assumption)
                    have q340 : x100_4 < (t329.length : Int) := of_decide_eq_true (by assumption)
                    obtain ⟨ad340, e340, hx340_0⟩ := Kd.at_int (Kd.R_reads' HO_14.out).2.2 x100_4 p340 q340
                    cases e340
                    replace p340 := eq_true p340
                    replace q340 := eq_true q340
                    go_wp2_with (first | (go_at_call 30; (with_reducible refine (epicycleref02_Pow.calls k4 t337 (IntKind.u64.wrap (wrap64 (x100_4 * a2))) t322 t341 _ A49.out).mono ?_); rintro e w' ⟨rfl, ⟨nd, rfl⟩⟩; (try first | exact ⟨rfl, _, World.drewN_drewN _ _ _⟩ | exact ⟨rfl, _, Eq.trans (World.drewN_drewN _ _ _) (congrArg (World.drewN _) (Nat.add_assoc _ _ _))⟩)) | (go_at_call 26; (with_reducible refine (epicycleref02_Mul.calls k4 (rd t329 x100_4) t341 t322 t342 _ A50.out).mono ?_); rintro e w' ⟨rfl, ⟨nd, rfl⟩⟩; (try first | exact ⟨rfl, _, World.drewN_drewN _ _ _⟩ | exact ⟨rfl, _, Eq.trans (World.drewN_drewN _ _ _) (congrArg (World.drewN _) (Nat.add_assoc _ _ _))⟩)))
                    repeat (go_quiet (first | (go_at_call 30; (with_reducible refine (epicycleref02_Pow.calls k4 t337 (IntKind.u64.wrap (wrap64 (x100_4 * a2))) t322 t341 _ A49.out).mono ?_); rintro e w' ⟨rfl, ⟨nd, rfl⟩⟩; (try first | exact ⟨rfl, _, World.drewN_drewN _ _ _⟩ | exact ⟨rfl, _, Eq.trans (World.drewN_drewN _ _ _) (congrArg (World.drewN _) (Nat.add_assoc _ _ _))⟩)) | (go_at_call 26; (with_reducible refine (epicycleref02_Mul.calls k4 (rd t329 x100_4) t341 t322 t342 _ A50.out).mono ?_); rintro e w' ⟨rfl, ⟨nd, rfl⟩⟩; (try first | exact ⟨rfl, _, World.drewN_drewN _ _ _⟩ | exact ⟨rfl, _, Eq.trans (World.drewN_drewN _ _ _) (congrArg (World.drewN _) (Nat.add_assoc _ _ _))⟩))); try go_wp2_with (first | (go_at_call 30; (with_reducible refine (epicycleref02_Pow.calls k4 t337 (IntKind.u64.wrap (wrap64 (x100_4 * a2))) t322 t341 _ A49.out).mono ?_); rintro e w' ⟨rfl, ⟨nd, rfl⟩⟩; (try first | exact ⟨rfl, _, World.drewN_drewN _ _ _⟩ | exact ⟨rfl, _, Eq.trans (World.drewN_drewN _ _ _) (congrArg (World.drewN _) (Nat.add_assoc _ _ _))⟩)) | (go_at_call 26; (with_reducible refine (epicycleref02_Mul.calls k4 (rd t329 x100_4) t341 t322 t342 _ A50.out).mono ?_); rintro e w' ⟨rfl, ⟨nd, rfl⟩⟩; (try first | exact ⟨rfl, _, World.drewN_drewN _ _ _⟩ | exact ⟨rfl, _, Eq.trans (World.drewN_drewN _ _ _) (congrArg (World.drewN _) (Nat.add_assoc _ _ _))⟩))))
                    go_roundg k4
                    case measure => have := HJ6.out; have := HK2.out; have := HJ31.out; have := HK4.out; omega
                    case rel => exact ⟨(wrap64 (x100_4 + 1)), (by first | rfl | (simp; done) | (simp [*]; done)), H', ⟨by have := HJ6.out; have := HK2.out; have := HJ31.out; have := HK4.out; omega⟩, ⟨by (with_reducible repeat (first | apply Kd.R_alloc | apply Kd.R_drewN | apply Kd.R_drew)); exact HO_14.out⟩, ⟨by (with_reducible repeat (first | apply Kd.R_alloc | apply Kd.R_drewN | apply Kd.R_drew)); exact HO_16.out⟩, ⟨by (with_reducible repeat (first | refine blk_drewN ?_ _ | refine blk_drew ?_ | refine blk_alloc ?_ _)); exact BK317.out⟩, ⟨bel_⟩⟩
                   ·rw [if_neg c51] at H
                    have c51b0 := beq_eq_false_iff_ne.mpr c51
                    have c51b1 := bne_iff_ne.mpr c51
                    exact absurd H (by simp)
                  ·rw [if_neg c48] at H
                   exact absurd H (by simp)
                 ·rw [if_neg c47] at H
                  exact absurd H (by simp)
                ·rw [if_neg c46] at H
                 exact absurd H (by simp)
               ·rw [if_neg c45] at H
                have c45b0 := decide_eq_false c45
                clear c45
                clear H
                go_wp2
                go_ret
                exact ⟨by first | rfl | (simp [errW_none, errW_some] <;> rfl) | (simp [*, errW_none, errW_some] <;> rfl), bel_⟩
      ·rw [if_neg c16] at H
       exact absurd H (by simp)
     ·rw [if_neg c15] at H
      exact absurd H (by simp)
 ·replace c5 := Bool.eq_false_iff.mpr c5
  subst c5
  have H1 := H; rw [if_neg (show ¬ (false = true) by decide)] at H1
  clear H
  have H := H1
  clear H1
  exact absurd H (by simp)
end Go.Proofs.YtndkmnjbjlfeaaaGreat.XG
end
section
namespace Go.Proofs.YtndkmnjbjlfeaaaGreat.XG
open Go.RowKit Go.Proofs.YtndkmnjbjlfeaaaGreat.Given Go.Proofs.YtndkmnjbjlfeaaaGreat.Row05 Go.Proofs.YtndkmnjbjlfeaaaGreat.XS Go.Proofs.YtndkmnjbjlfeaaaGreat.XT Go.Proofs.YtndkmnjbjlfeaaaGreat.XR Go.Proofs.YtndkmnjbjlfeaaaGreat.F06 Go.Proofs.YtndkmnjbjlfeaaaGreat.XK Go.Proofs.YtndkmnjbjlfeaaaGreat.XW Go.Proofs.YtndkmnjbjlfeaaaGreatW.PrintWords Go.Proofs.YtndkmnjbjlfeaaaGreatW.PrintLast Go.Proofs.YtndkmnjbjlfeaaaGreatW.PrintMore
attribute [local go_sem] max2_int min2_int max_two min_two max_three min_three max_four min_four   -- for this text's walks alone
set_option linter.unusedVariables false
set_option linter.unusedSimpArgs false
end Go.Proofs.YtndkmnjbjlfeaaaGreat.XG
end
section
namespace Go.Proofs.YtndkmnjbjlfeaaaGreat.XG
open Go.RowKit Go.Proofs.YtndkmnjbjlfeaaaGreat.Given Go.Proofs.YtndkmnjbjlfeaaaGreat.Row05 Go.Proofs.YtndkmnjbjlfeaaaGreat.XS Go.Proofs.YtndkmnjbjlfeaaaGreat.XT Go.Proofs.YtndkmnjbjlfeaaaGreat.XR Go.Proofs.YtndkmnjbjlfeaaaGreat.F06 Go.Proofs.YtndkmnjbjlfeaaaGreat.XK Go.Proofs.YtndkmnjbjlfeaaaGreat.XW Go.Proofs.YtndkmnjbjlfeaaaGreatW.PrintWords Go.Proofs.YtndkmnjbjlfeaaaGreatW.PrintLast Go.Proofs.YtndkmnjbjlfeaaaGreatW.PrintMore
attribute [local go_sem] max2_int min2_int max_two min_two max_three min_three max_four min_four   -- for this text's walks alone
set_option linter.unusedVariables false
set_option linter.unusedSimpArgs false
end Go.Proofs.YtndkmnjbjlfeaaaGreat.XG
end
