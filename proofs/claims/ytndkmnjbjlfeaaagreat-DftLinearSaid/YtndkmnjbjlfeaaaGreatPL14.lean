/- Parts of this claim's texts, packed by wip/tools/prune.py: what the proof does not reach is left out. -/
import Derived.Test.YtndkmnjbjlfeaaaGreatPL13
section
namespace Go.Proofs.YtndkmnjbjlfeaaaGreat.XG
open Go.RowKit Go.Proofs.YtndkmnjbjlfeaaaGreat.Given Go.Proofs.YtndkmnjbjlfeaaaGreat.Row05 Go.Proofs.YtndkmnjbjlfeaaaGreat.XS Go.Proofs.YtndkmnjbjlfeaaaGreat.XT Go.Proofs.YtndkmnjbjlfeaaaGreat.XR Go.Proofs.YtndkmnjbjlfeaaaGreat.F06 Go.Proofs.YtndkmnjbjlfeaaaGreat.XK Go.Proofs.YtndkmnjbjlfeaaaGreat.XW Go.Proofs.YtndkmnjbjlfeaaaGreatW.PrintWords Go.Proofs.YtndkmnjbjlfeaaaGreatW.PrintLast Go.Proofs.YtndkmnjbjlfeaaaGreatW.PrintMore
attribute [local go_sem] max2_int min2_int max_two min_two max_three min_three max_four min_four   -- for this text's walks alone
set_option linter.unusedVariables false
set_option linter.unusedSimpArgs false
mutual
noncomputable def epicyclelaw11_DftLinear.j0 : Nat → List Int → List Int → Int → Bool → List (Fld) → Int → Bool → Option (Bool)
 | 0, _, _, _, _, _, _, _ => none
 | k + 1, x1, x2, x3, x4, x11, x12, x46 => if x46 = true then (some true) else (epicyclelaw11_DftLinear.l0 k x1 x2 x3 x4 x11 x12 ([] : List Int) (x1.length : Int) 0)
noncomputable def epicyclelaw11_DftLinear.l0 : Nat → List Int → List Int → Int → Bool → List (Fld) → Int → List Int → Int → Int → Option (Bool)
 | 0, _, _, _, _, _, _, _, _, _ => none
 | k + 1, x1, x2, x3, x4, x11, x12, x14, x48, x49 => if x49 < x48 then (if 0 ≤ x49 then (if x49 < (x1.length : Int) then ((epicycleref02_Mul.f k x3 (rd x1 x49) x12).bind fun t294 => (if x49 < (x2.length : Int) then ((epicycleref02_Add.f t294 (rd x2 x49) x12).bind fun t296 => (if x14.length < 17592186044416 then (epicyclelaw11_DftLinear.l0 k x1 x2 x3 x4 x11 x12 (x14 ++ [t296]) x48 (wrap64 (x49 + 1))) else (none))) else (none))) else (none)) else (none)) else ((dft_Run.f k x11 x1 x4).bind fun bt300 => ((dft_Run.f k x11 x2 x4).bind fun bt304 => ((dft_Run.f k x11 x14 x4).bind fun bt308 => (if bt300.2 = 0 then (if bt304.2 = 0 then (if bt308.2 = 0 then (if (bt300.1.length : Int) = (x1.length : Int) then (if (bt304.1.length : Int) = (x1.length : Int) then (epicyclelaw11_DftLinear.j2 k x3 x12 bt300.1 bt304.1 bt308.1 ((bt308.1.length : Int) != (x1.length : Int))) else (epicyclelaw11_DftLinear.j2 k x3 x12 bt300.1 bt304.1 bt308.1 true)) else (epicyclelaw11_DftLinear.j2 k x3 x12 bt300.1 bt304.1 bt308.1 true)) else (epicyclelaw11_DftLinear.j2 k x3 x12 bt300.1 bt304.1 bt308.1 true)) else (epicyclelaw11_DftLinear.j2 k x3 x12 bt300.1 bt304.1 bt308.1 true)) else (epicyclelaw11_DftLinear.j2 k x3 x12 bt300.1 bt304.1 bt308.1 true)))))
noncomputable def epicyclelaw11_DftLinear.j2 : Nat → Int → Int → List Int → List Int → List Int → Bool → Option (Bool)
 | 0, _, _, _, _, _, _ => none
 | k + 1, x3, x12, x16, x18, x20, x120 => if x120 = true then (some false) else (epicyclelaw11_DftLinear.l1 k x3 x12 x16 x18 x20 (x20.length : Int) 0)
noncomputable def epicyclelaw11_DftLinear.l1 : Nat → Int → Int → List Int → List Int → List Int → Int → Int → Option (Bool)
 | 0, _, _, _, _, _, _, _ => none
 | k + 1, x3, x12, x16, x18, x20, x122, x123 => if x123 < x122 then (if 0 ≤ x123 then (if x123 < (x20.length : Int) then (if x123 < (x16.length : Int) then ((epicycleref02_Mul.f k x3 (rd x16 x123) x12).bind fun t314 => (if x123 < (x18.length : Int) then ((epicycleref02_Add.f t314 (rd x18 x123) x12).bind fun t316 => (if (rd x20 x123) = t316 then (epicyclelaw11_DftLinear.l1 k x3 x12 x16 x18 x20 x122 (wrap64 (x123 + 1))) else (some false))) else (none))) else (none)) else (none)) else (none)) else (some true)
end
noncomputable def epicyclelaw11_DftLinear.f (k : Nat) (a0_0 : Int) (a0_1 : Int) (a0_2 : Int) (l0_3 : List (S134)) (l1 : List Int) (l2 : List Int) (a3 : Int) (a4 : Bool) : Option (Bool) := (epicyclelaw11_alive.f k).bind fun t286 => (if t286 = true then ((epicyclelaw11_fit.f k a0_0 a0_1 a0_2 l0_3 l1 64).bind fun bt287 => (if bt287.2.2 = true then (if (l2.length : Int) = (l1.length : Int) then ((epicycleref11_Good.f k bt287.2.1 l2).bind fun t292 => (epicyclelaw11_DftLinear.j0 k l1 l2 a3 a4 bt287.1 bt287.2.1 (!t292))) else (epicyclelaw11_DftLinear.j0 k l1 l2 a3 a4 bt287.1 bt287.2.1 true)) else (epicyclelaw11_DftLinear.j0 k l1 l2 a3 a4 bt287.1 bt287.2.1 true))) else (some false))
def epicyclelaw11_DftLinear.T10 : Bool × List (List Nat × List Nat) := (true, [([], []), ([], []), ([], []), ([], []), ([2, 3], [2, 3]), ([4], [4]), ([], []), ([1, 5, 6], [1, 5, 6]), ([], []), ([], []), ([8, 9], [8, 9]), ([10], [10]), ([], []), ([7, 11, 12, 7], [7, 11, 12]), ([13], [13]), ([0, 14, 13], [0, 14]), ([15, 15, 0, 1, 2, 3, 4, 5, 6, 7, 8, 9, 10, 11, 12, 13, 14, 15], [0, 15])])
def epicyclelaw11_DftLinear.B10 : List Nat := [0, 0, 0, 0, 12, 28, 0, 126, 0, 0, 768, 1792, 0, 8190, 16382, 32767, 65535]
theorem epicyclelaw11_DftLinear.tab10 : rtab .any (opsOf Tryz.f6 10) = epicyclelaw11_DftLinear.T10 := by kernel_rfl
theorem epicyclelaw11_DftLinear.bits10 : waitsOk epicyclelaw11_DftLinear.T10.2 epicyclelaw11_DftLinear.B10 = true := by kernel_rfl
def epicyclelaw11_DftLinear.T20 : Bool × List (List Nat × List Nat) := (true, [([], []), ([], []), ([0, 1], [0, 1]), ([2], [2]), ([], []), ([], []), ([], []), ([5, 6], [5, 6]), ([7], [7]), ([], []), ([4, 8, 9], [4, 8, 9]), ([], []), ([], []), ([11, 12], [11, 12]), ([13], [13]), ([], []), ([10, 14, 15, 10], [10, 14, 15]), ([3, 16], [3, 16])])
def epicyclelaw11_DftLinear.B20 : List Nat := [0, 0, 3, 7, 0, 0, 0, 96, 224, 0, 1008, 0, 0, 6144, 14336, 0, 65520, 131071]
theorem epicyclelaw11_DftLinear.tab20 : rtab .any (opsOf Tryz.f6 20) = epicyclelaw11_DftLinear.T20 := by kernel_rfl
theorem epicyclelaw11_DftLinear.bits20 : waitsOk epicyclelaw11_DftLinear.T20.2 epicyclelaw11_DftLinear.B20 = true := by kernel_rfl
set_option maxHeartbeats 8000000 in
set_option maxRecDepth 100000 in
theorem epicyclelaw11_DftLinear.calls (k : Nat) (a0_0 : Int) (a0_1 : Int) (a0_2 : Int) (A0_3 : Option Addr) (c0_3 : Nat) (l0_3 : List (S134)) (A1 : Option Addr) (c1 : Nat) (l1 : List Int) (A2 : Option Addr) (c2 : Nat) (l2 : List Int) (a3 : Int) (a4 : Bool) (w : World) (hr0_3 : Kd.C k134 w A0_3 l0_3.length l0_3) (hc0_3 : l0_3.length ≤ c0_3) (hr1 : Kd.C (Kd.int .u64) w A1 l1.length l1) (hc1 : l1.length ≤ c1) (hr2 : Kd.C (Kd.int .u64) w A2 l2.length l2) (hc2 : l2.length ≤ c2) (h : epicyclelaw11_DftLinear.f k a0_0 a0_1 a0_2 l0_3 l1 l2 a3 a4 = some true) :
  Calls Tryz.prog 6 #[.agg #[.int .i64 a0_0, .int .i64 a0_1, .int .u64 a0_2, .slice A0_3 l0_3.length c0_3], .slice A1 l1.length c1, .slice A2 l2.length c2, .int .u64 a3, .bool a4] w fun e w' => e = .returned (.bool true) ∧ Below w.heap.size w w' := by
 have hu25 := Tryz.underlying25
 have HR0_3 := Aside0.mk hr0_3
 have HC0_3 := Aside0.mk hc0_3
 clear hr0_3 hc0_3
 have HR1 := Aside0.mk hr1
 have HC1 := Aside0.mk hc1
 clear hr1 hc1
 have HR2 := Aside0.mk hr2
 have HC2 := Aside0.mk hc2
 clear hr2 hc2
 have HB := Aside0.mk (Below.refl w.heap.size w)
 have H := h; unfold epicyclelaw11_DftLinear.f at H
 clear h
 replace H := Option.bind_eq_some_iff.mp H
 obtain ⟨t286, A60, H⟩ := H
 (try dsimp only at H)
 have A6 := Aside0.mk A60
 clear A60
 by_cases c7 : t286 = true
 ·subst c7
  have H1 := H; rw [if_pos rfl] at H1
  clear H
  have H := H1
  clear H1
  replace H := Option.bind_eq_some_iff.mp H
  obtain ⟨⟨t287, t290, t291⟩, A80, H⟩ := H
  (try dsimp only at H)
  have A8 := Aside0.mk A80
  clear A80
  have HC9 := Aside0.mk H
  clear H
  go_enter Tryz.func6, Tryz.ntmps6
  go_upto_region 4 with (first | ((with_reducible refine gate_dst (N := 5) rfl ?_); (try (refine gate_guard (by rfl) ?_; dsimp only)); refine box_event ?hg (N := 5) ?hd (cs := #[.int .i64 a0_0, .int .i64 a0_1, .int .u64 a0_2, .slice A0_3 l0_3.length c0_3]) (t := 25) ?hr ?_; (case hd => rfl); (case hg => rfl); (case hr => first | (go_simp; done) | (go_simp; rfl)); intro gb285 hg w10 hbox hb; have n0_ := Aside0.mk (below_step bel_ hb); have n1_ := Aside0.mk (hbox); have n2_ := Aside0.mk ((by rw [hg]; exact (below_size bel_) : w.heap.size ≤ gb285)); have n3_ := Aside0.mk ((by rw [hg]; exact (below_size bel_) : w.heap.size ≤ gb285)); clear HB; have HB := n0_; have BK285 := n1_; have GW285 := n2_; have GE285 := n3_; clear n0_ n1_ n2_ n3_; clear hb hbox hg) | ((with_reducible refine gate_callee (f := 16) rfl ?_); refine goesL_ (some 23) rfl rfl Tryz.func16 (by kernel_rfl) rfl #[] rfl (by (try simp only [List.map_toArray, List.map_cons, List.map_nil]); first | done | rfl | (simp only [List.length_drop, List.length_take]; rfl)) ?_; (with_reducible refine (epicyclelaw11_alive.calls k  true _ A6.out).mono ?_); rintro e w11 ⟨rfl, hb⟩; refine ⟨_, rfl, ?_⟩; have n0_ := Aside0.mk (blk_below (g := gb285) (o := .cells #[.int .i64 a0_0, .int .i64 a0_1, .int .u64 a0_2, .slice A0_3 l0_3.length c0_3] 25 (0, 0)) (by (with_reducible repeat (first | refine blk_drewN ?_ _ | refine blk_drew ?_ | refine blk_alloc ?_ _)); exact BK285.out) hb); have n1_ := Aside0.mk (below_step bel_ hb); clear BK285; clear HB; have BK285 := n0_; have HB := n1_; clear n0_ n1_; (try clear hb); (try clear hb2); (try clear hk); (try clear hi); have hcz12_0 : w11.cell? ⟨gb285, 0, none⟩ = some (.int .i64 a0_0) := (blk_cell BK285.out 0).trans rfl; have hcz12_1 : w11.cell? ⟨gb285, 1, none⟩ = some (.int .i64 a0_1) := (blk_cell BK285.out 1).trans rfl; have hcz12_2 : w11.cell? ⟨gb285, 2, none⟩ = some (.int .u64 a0_2) := (blk_cell BK285.out 2).trans rfl; have hcz12_3 : w11.cell? ⟨gb285, 3, none⟩ = some (.slice A0_3 l0_3.length c0_3) := (blk_cell BK285.out 3).trans rfl; have hfz12_0 := blk_frozen BK285.out 0; have hfz12_1 := blk_frozen BK285.out 1; have hfz12_2 := blk_frozen BK285.out 2; have hfz12_3 := blk_frozen BK285.out 3) | ((with_reducible refine gate_callee (f := 27) rfl ?_); refine goesL_ (some 28) rfl rfl Tryz.func27 (by kernel_rfl) rfl #[.agg #[.int .i64 a0_0, .int .i64 a0_1, .int .u64 a0_2, .slice A0_3 l0_3.length c0_3], .slice A1 l1.length c1, .int .i64 64] rfl (by (try simp only [List.map_toArray, List.map_cons, List.map_nil]); first | done | rfl | (simp only [List.length_drop, List.length_take]; rfl)) ?_; (with_reducible refine (epicyclelaw11_fit.calls k a0_0 a0_1 a0_2 _ _ l0_3 _ _ l1 64 t287 t290 t291 _ ?side1 ?side2 ?side3 ?side4 A8.out).mono ?_); (case side1 => repeat (first | exact (Kd.C_below HR0_3.out HB.out) | (with_reducible refine Kd.C_alloc ?_ _) | (with_reducible refine Kd.C_drewN ?_ _) | (with_reducible refine Kd.C_drew ?_))); (case side2 => exact HC0_3.out); (case side3 => repeat (first | exact (Kd.C_below HR1.out HB.out) | (with_reducible refine Kd.C_alloc ?_ _) | (with_reducible refine Kd.C_drewN ?_ _) | (with_reducible refine Kd.C_drew ?_))); (case side4 => exact HC1.out); rintro e w13 ⟨v288, rfl, ho0, hb⟩; refine ⟨_, rfl, ?_⟩; have n0_ := Aside0.mk (Kd.R_lower ho0 (below_size bel_)); have n1_ := Aside0.mk (blk_below (g := gb285) (o := .cells #[.int .i64 a0_0, .int .i64 a0_1, .int .u64 a0_2, .slice A0_3 l0_3.length c0_3] 25 (0, 0)) (by (with_reducible repeat (first | refine blk_drewN ?_ _ | refine blk_drew ?_ | refine blk_alloc ?_ _)); exact BK285.out) hb); have n2_ := Aside0.mk (below_step bel_ hb); clear BK285; clear HB; have HO289 := n0_; have BK285 := n1_; have HB := n2_; clear n0_ n1_ n2_; (try clear hb); (try clear hb2); (try clear hk); (try clear hi); (try clear ho0)))
  (try simp only [Act.put, List.setIfInBounds_toArray, List.set_cons_zero, List.set_cons_succ])
  go_cut [46] (fun v46 wc => ∃ (kq : Nat) (x46_8 : Bool), v46 = .bool x46_8 ∧ Aside0 (epicyclelaw11_DftLinear.j0 kq l1 l2 a3 a4 t287 t290 x46_8 = some true) ∧ Aside0 (kq ≤ k) ∧ Aside0 (Kd.R kFld 97 wc w.heap.size (fun _ => True) v288 t287) ∧ Aside0 (wc.heap[gb285]? = some (.cells #[.int .i64 a0_0, .int .i64 a0_1, .int .u64 a0_2, (.slice A0_3 l0_3.length c0_3)] 25 (0, 0))) ∧ Aside0 (Below w.heap.size w wc))
  case first =>
   have H := HC9.out
   clear HC9
   by_cases c14 : t291 = true
   ·subst c14
    have H1 := H; rw [if_pos rfl] at H1
    clear H
    have H := H1
    clear H1
    by_cases c15 : (l2.length : Int) = (l1.length : Int)
    ·rw [if_pos c15] at H
     have c15b0 := beq_iff_eq.mpr c15
     have c15b1 := bne_eq_false_iff_eq.mpr c15
     have c15b2 : (l2.length == l1.length) = true := by first | simpa using c15 | (simp at c15 ⊢; omega)
     clear c15
     (first | rw [c15b0] | (simp only [i64_w, i32_w]; rw [c15b0]) | skip)
     replace H := Option.bind_eq_some_iff.mp H
     obtain ⟨t292, A160, H⟩ := H
     (try dsimp only at H)
     have A16 := Aside0.mk A160
     clear A160
     have H' := Aside0.mk H
     clear H
     go_wp2_with (first | (go_at_call 21; (with_reducible refine (epicycleref11_Good.calls k t290 _ _ l2 t292 _ ?side1 ?side2 A16.out).mono ?_); (case side1 => repeat (first | exact (Kd.C_below HR2.out HB.out) | (with_reducible refine Kd.C_alloc ?_ _) | (with_reducible refine Kd.C_drewN ?_ _) | (with_reducible refine Kd.C_drew ?_))); (case side2 => exact HC2.out); rintro e w' ⟨rfl, ⟨nd, rfl⟩⟩))
     go_meet
     case rel => exact ⟨_, (!t292), (by first | rfl | (simp; done) | (simp [*]; done)), H', ⟨by first | omega | exact Nat.le_refl _⟩, ⟨by (with_reducible repeat (first | apply Kd.R_alloc | apply Kd.R_drewN | apply Kd.R_drew)); exact HO289.out⟩, ⟨by (with_reducible repeat (first | refine blk_drewN ?_ _ | refine blk_drew ?_ | refine blk_alloc ?_ _)); exact BK285.out⟩, ⟨bel_⟩⟩
    ·rw [if_neg c15] at H
     have c15b0 := beq_eq_false_iff_ne.mpr c15
     have c15b1 := bne_iff_ne.mpr c15
     have c15b2 : (l2.length == l1.length) = false := by first | simpa using c15 | (simp at c15 ⊢; omega)
     (first | rw [c15b0] | (simp only [i64_w, i32_w]; rw [c15b0]) | skip)
     have H' := Aside0.mk H
     clear H
     go_wp2
     go_meet
     case rel => exact ⟨_, (true), (by first | rfl | (simp; done) | (simp [*]; done)), H', ⟨by first | omega | exact Nat.le_refl _⟩, ⟨by (with_reducible repeat (first | apply Kd.R_alloc | apply Kd.R_drewN | apply Kd.R_drew)); exact HO289.out⟩, ⟨by (with_reducible repeat (first | refine blk_drewN ?_ _ | refine blk_drew ?_ | refine blk_alloc ?_ _)); exact BK285.out⟩, ⟨bel_⟩⟩
   ·replace c14 := Bool.eq_false_iff.mpr c14
    subst c14
    have H1 := H; rw [if_neg (show ¬ (false = true) by decide)] at H1
    clear H
    have H := H1
    clear H1
    have H' := Aside0.mk H
    clear H
    go_wp2
    go_meet
    case rel => exact ⟨_, (true), (by first | rfl | (simp; done) | (simp [*]; done)), H', ⟨by first | omega | exact Nat.le_refl _⟩, ⟨by (with_reducible repeat (first | apply Kd.R_alloc | apply Kd.R_drewN | apply Kd.R_drew)); exact HO289.out⟩, ⟨by (with_reducible repeat (first | refine blk_drewN ?_ _ | refine blk_drew ?_ | refine blk_alloc ?_ _)); exact BK285.out⟩, ⟨bel_⟩⟩
  case rest =>
   clear HC9
   try clear c1
   try clear c2
   try clear p2
   try clear c6
   try clear c7
   try clear c14
   try clear c15
   try clear c15b0
   try clear c15b1
   try clear c15b2
   try clear c16
   try clear hcz12_0
   try clear hcz12_1
   try clear hcz12_2
   try clear hcz12_3
   try clear hfz12_0
   try clear hfz12_1
   try clear hfz12_2
   try clear hfz12_3
   obtain ⟨kq, x46_8, rfl, HA, HJ8, HO_11, BK285, HB⟩ := hcut
   cases kq with
   | zero => exact absurd HA.out (by simp [epicyclelaw11_DftLinear.j0])
   | succ kj8 =>
    have H := HA.out
    clear HA
    simp only [epicyclelaw11_DftLinear.j0] at H
    by_cases c17 : x46_8 = true
    ·subst c17
     have H1 := H; rw [if_pos rfl] at H1
     clear H
     have H := H1
     clear H1
     clear H
     go_wp2
     go_ret
     exact ⟨by first | rfl | (simp [errW_none, errW_some] <;> rfl) | (simp [*, errW_none, errW_some] <;> rfl), bel_⟩
    ·replace c17 := Bool.eq_false_iff.mpr c17
     subst c17
     have H1 := H; rw [if_neg (show ¬ (false = true) by decide)] at H1
     clear H
     have H := H1
     clear H1
     have H' := Aside0.mk H
     clear H
     go_wp2
     go_loopg [14, 49] kj8 (fun kq v14 v49 w' => ∃ (x14_2 : List Int) (x49_2 : Int), v49 = .int .i64 x49_2 ∧ Aside0 (epicyclelaw11_DftLinear.l0 kq l1 l2 a3 a4 t287 t290 x14_2 (l1.length : Int) x49_2 = some true) ∧ Aside0 (kq ≤ kj8) ∧ Aside0 (Kd.R kFld 97 w' w.heap.size (fun _ => True) v288 t287) ∧ Aside0 (Kd.R (Kd.int .u64) 22 w' w.heap.size (fun _ => True) v14 x14_2) ∧ Aside0 (w'.heap[gb285]? = some (.cells #[.int .i64 a0_0, .int .i64 a0_1, .int .u64 a0_2, (.slice A0_3 l0_3.length c0_3)] 25 (0, 0))) ∧ Aside0 (Below w.heap.size w w'))
     case atStart => exact ⟨(([] : List Int)), (0), (by first | rfl | (simp; done) | (simp [*]; done)), H', ⟨Nat.le_refl _⟩, ⟨by (with_reducible repeat (first | apply Kd.R_alloc | apply Kd.R_drewN | apply Kd.R_drew)); exact HO_11.out⟩, ⟨by first | exact Kd.R_nil _ _ _ _ _ | exact Kd.N_nil _ _ _ _ _ | exact Kd.V_nil _ _ _ _ _ | exact Kd.Q_nil _ _ _ _ _ | exact Kd.S_nil _ _ _ _ _⟩, ⟨by (with_reducible repeat (first | refine blk_drewN ?_ _ | refine blk_drew ?_ | refine blk_alloc ?_ _)); exact BK285.out⟩, ⟨bel_⟩⟩
     case round =>
      clear H'
      try clear c1
      try clear c2
      try clear p2
      try clear c6
      try clear c7
      try clear c14
      try clear c15
      try clear c15b0
      try clear c15b1
      try clear c15b2
      try clear c16
      try clear c17
      try clear hcz12_0
      try clear hcz12_1
      try clear hcz12_2
      try clear hcz12_3
      try clear hfz12_0
      try clear hfz12_1
      try clear hfz12_2
      try clear hfz12_3
      try clear p2
      obtain ⟨x14_2, x49_2, rfl, HA, HK2, HO_11, HO_14, BK285, HB⟩ := hrel
      cases gk with
      | zero => exact absurd HA.out (by simp [epicyclelaw11_DftLinear.l0])
      | succ k2 =>
       have H := HA.out
       clear HA
       simp only [epicyclelaw11_DftLinear.l0] at H
       by_cases c18 : x49_2 < (l1.length : Int)
       ·rw [if_pos c18] at H
        have c18b0 := decide_eq_true c18
        clear c18
        by_cases c19 : 0 ≤ x49_2
        ·rw [if_pos c19] at H
         have c19b0 := decide_eq_true c19
         clear c19
         by_cases c20 : x49_2 < (l1.length : Int)
         ·rw [if_pos c20] at H
          have c20b0 := decide_eq_true c20
          clear c20
          replace H := Option.bind_eq_some_iff.mp H
          obtain ⟨t294, A210, H⟩ := H
          (try dsimp only at H)
          have A21 := Aside0.mk A210
          clear A210
          by_cases c22 : x49_2 < (l2.length : Int)
          ·rw [if_pos c22] at H
           have c22b0 := decide_eq_true c22
           clear c22
           replace H := Option.bind_eq_some_iff.mp H
           obtain ⟨t296, A230, H⟩ := H
           (try dsimp only at H)
           have A23 := Aside0.mk A230
           clear A230
           by_cases c24 : x14_2.length < 17592186044416
           ·rw [if_pos c24] at H
            have LMc24 := Aside0.mk c24
            clear c24
            obtain ⟨y297, hy297⟩ : ∃ y_ : List Int, y_ = (x14_2 ++ [t296]) := ⟨_, rfl⟩
            replace H : (epicyclelaw11_DftLinear.l0 k2 l1 l2 a3 a4 t287 t290 y297 (l1.length : Int) (wrap64 (x49_2 + 1))) = some true := by first | (rw [hy297]; with_reducible exact H) | (have H2_ := (Option.bind_some _ _).symm.trans H; rw [hy297]; with_reducible exact H2_) | (have H2_ := (Option.bind_some _ _).symm.trans H; with_reducible exact H2_) | with_reducible exact H | (rw [hy297]; exact H) | exact H
            have Ny297 := Aside0.mk hy297
            clear hy297
            have H' := Aside0.mk H
            clear H
            try go_wp2
            have n0_ := Aside0.mk (Kd.R_drew HO_11.out)
            have n1_ := Aside0.mk (Kd.R_drew HO_14.out)
            have n2_ := Aside0.mk (blk_drew BK285.out)
            have n3_ := Aside0.mk (below_drew1 HB.out)
            clear HO_11
            clear HO_14
            clear BK285
            clear HB
            have HO_11 := n0_
            have HO_14 := n1_
            have BK285 := n2_
            have HB := n3_
            clear n0_ n1_ n2_ n3_
            have p293 : 0 ≤ (x49_2 : Int) := of_decide_eq_true (by assumption)
            have q293 : x49_2 < (l1.length : Int) := of_decide_eq_true (by assumption)
            obtain ⟨ad293, e293, hx293_0⟩ := Kd.at_int HR1.out x49_2 p293 q293
            have hw293_0 := hx293_0
            cases e293
            replace hx293_0 := (HB.out.cell (World.block_lt_of_cell? w _ hx293_0)).trans hx293_0
            replace p293 := eq_true p293
            replace q293 := eq_true q293
            have p295 : 0 ≤ (x49_2 : Int) := of_decide_eq_true (by assumption)
            have q295 : x49_2 < (l2.length : Int) := of_decide_eq_true (by assumption)
            obtain ⟨ad295, e295, hx295_0⟩ := Kd.at_int HR2.out x49_2 p295 q295
            have hw295_0 := hx295_0
            cases e295
            replace hx295_0 := (HB.out.cell (World.block_lt_of_cell? w _ hx295_0)).trans hx295_0
            replace p295 := eq_true p295
            replace q295 := eq_true q295
            refine start_ (n := 17) (S := fun w' => w'.cell? (ad293.add (x49_2).toNat) = some (.int .u64 (rd l1 x49_2)) ∧ w'.cell? (ad295.add (x49_2).toNat) = some (.int .u64 (rd l2 x49_2))) (ds := []) #[false, false, false, false, false, false, false, false, false, false, false, false, false, false, false, false, false] (by kernel_rfl) rfl rfl ⟨((HB.out.cell (World.block_lt_of_cell? w _ hw293_0)).trans hw293_0), ((HB.out.cell (World.block_lt_of_cell? w _ hw295_0)).trans hw295_0)⟩ (fun hHeld => ?_); refine with_tabW epicyclelaw11_DftLinear.tab10 epicyclelaw11_DftLinear.bits10 (fun HT_ HW_ => ?_)
            generalize wr.drew = w25 at HO_11 HO_14 BK285 HB hx293_0 hx295_0 hHeld ⊢
            refine pS_ 0 52 (any_of HT_.out (by kernel_rfl)) rfl rfl ?_
            refine pS_ 1 53 (any_of HT_.out (by kernel_rfl)) rfl rfl ?_
            refine pS_ 2 54 (any_of HT_.out (by kernel_rfl)) rfl rfl ?_
            refine pS_ 3 55 (any_of HT_.out (by kernel_rfl)) rfl rfl ?_
            refine pS_ 4 56 (any_of HT_.out (by kernel_rfl)) rfl rfl ?_
            refine pS_ 6 58 (any_of HT_.out (by kernel_rfl)) rfl rfl ?_
            refine pS_ 8 60 (any_of HT_.out (by kernel_rfl)) rfl rfl ?_
            refine pS_ 9 61 (any_of HT_.out (by kernel_rfl)) rfl rfl ?_
            refine pS_ 10 62 (any_of HT_.out (by kernel_rfl)) rfl rfl ?_
            refine pS_ 12 64 (any_of HT_.out (by kernel_rfl)) rfl rfl ?_
            refine tS_ 5 57 (take_ofW HT_.out HW_.out (by kernel_rfl)) hHeld (by rintro w' ⟨s0, s1⟩; go_simp; with_reducible rfl) rfl rfl ?_
            refine tS_ 11 63 (take_ofW HT_.out HW_.out (by kernel_rfl)) hHeld (by rintro w' ⟨s0, s1⟩; go_simp; with_reducible rfl) rfl rfl ?_
            refine one_ (i := 7) (N := some 59) #[true, true, true, true, true, true, true, true, true, true, true, true, true, false, false, false, false] rfl rfl (one_of HT_.out (by kernel_rfl)) (by decide) (fun K hK => ?_)
            refine goes_ Tryz.func26 (by kernel_rfl) rfl #[.int .u64 a3, .int .u64 (rd l1 x49_2), .int .u64 t290] (by rfl) rfl rfl (by (try simp only [List.map_toArray, List.map_cons, List.map_nil]); first | done | rfl | (simp only [List.length_drop, List.length_take]; rfl)) ?_
            with_reducible refine (epicycleref02_Mul.calls k2 a3 (rd l1 x49_2) t290 t294 _ A21.out).mono ?_
            rintro e w' ⟨rfl, ⟨nd, rfl⟩⟩
            refine ⟨_, rfl, ?_⟩
            refine hK.out _ _ ⟨((HB.out.cell (World.block_lt_of_cell? w _ hw293_0)).trans hw293_0), ((HB.out.cell (World.block_lt_of_cell? w _ hw295_0)).trans hw295_0)⟩ (fun hHeld => ?_)
            clear hK K
            refine nS_ ?_
            refine one_ (i := 13) (N := some 65) #[true, true, true, true, true, true, true, true, true, true, true, true, true, true, false, false, false] rfl rfl (one_of HT_.out (by kernel_rfl)) (by decide) (fun K hK => ?_)
            refine goes_ Tryz.func28 (by kernel_rfl) rfl #[.int .u64 t294, .int .u64 (rd l2 x49_2), .int .u64 t290] (by rfl) rfl rfl (by (try simp only [List.map_toArray, List.map_cons, List.map_nil]); first | done | rfl | (simp only [List.length_drop, List.length_take]; rfl)) ?_
            with_reducible refine (epicycleref02_Add.calls t294 (rd l2 x49_2) t290 t296 _ A23.out).mono ?_
            rintro e w' ⟨rfl, ⟨nd, rfl⟩⟩
            refine ⟨_, rfl, ?_⟩
            refine hK.out _ _ ⟨((HB.out.cell (World.block_lt_of_cell? w _ hw293_0)).trans hw293_0), ((HB.out.cell (World.block_lt_of_cell? w _ hw295_0)).trans hw295_0)⟩ (fun hHeld => ?_)
            clear hK K
            refine nS_ ?_
            refine one_ (i := 14) (N := some 66) #[true, true, true, true, true, true, true, true, true, true, true, true, true, true, true, false, false] rfl rfl (one_of HT_.out (by kernel_rfl)) (by decide) (fun K hK => ?_)
            refine value_ (w1 := ?_) (v := ?_) (by rfl) rfl ?_ ?_
            rotate_left 2
            ·go_simp
             constructor
             ·rfl
             ·rfl
            refine hK.out _ _ ⟨(World.cell?_alloc_lt _ _ _ (World.block_lt_of_cell? _ _ (((HB.out.cell (World.block_lt_of_cell? w _ hw293_0)).trans hw293_0)))).trans (((HB.out.cell (World.block_lt_of_cell? w _ hw293_0)).trans hw293_0)), (World.cell?_alloc_lt _ _ _ (World.block_lt_of_cell? _ _ (((HB.out.cell (World.block_lt_of_cell? w _ hw295_0)).trans hw295_0)))).trans (((HB.out.cell (World.block_lt_of_cell? w _ hw295_0)).trans hw295_0))⟩ (fun hHeld => ?_)
            clear hK K
            refine nS_ ?_
            refine one_ (i := 15) (N := some 67) #[true, true, true, true, true, true, true, true, true, true, true, true, true, true, true, true, false] rfl rfl (one_of HT_.out (by kernel_rfl)) (by decide) (fun K hK => ?_)
            refine Kd.R_append_step (Kd.int .u64) (w0 := w) w.heap.size (by rfl) (.tmp 52) (.tmp 66) 26 22 (.int .u64 0) 8 rfl Tryz.underlying26 info22 rfl (by decide) (by omega) u14 x14_2 t296 [.int .u64 t296] (fun _ => True) (fun _ => False) rfl rfl ?aP (fun _ hk => hk.elim) ?aF ?aO ?aB ?aS ?aL ?_
            (case aP => exact rfl)
            (case aB => exact bel_)
            (case aF => exact (fun _ _ => trivial))
            (case aO => exact (by (with_reducible repeat (first | apply Kd.R_alloc | apply Kd.R_drewN | apply Kd.R_drew)); exact HO_14.out))
            (case aS => exact (below_size bel_))
            (case aL => have := LMc24.out; omega)
            intro v298 w26 ho hb hg hat
            rw [← Ny297.out] at ho
            have n0_ := Aside0.mk (Kd.R_over' (by (with_reducible repeat (first | apply Kd.R_alloc | apply Kd.R_drewN | apply Kd.R_drew)); exact HO_11.out) (Kd.R_typed (by (with_reducible repeat (first | apply Kd.R_alloc | apply Kd.R_drewN | apply Kd.R_drew)); exact HO_14.out)) (by decide) hg)
            have n1_ := Aside0.mk (blk_grown (g := gb285) (o := .cells #[.int .i64 a0_0, .int .i64 a0_1, .int .u64 a0_2, .slice A0_3 l0_3.length c0_3] 25 (0, 0)) (by (with_reducible repeat (first | refine blk_drewN ?_ _ | refine blk_drew ?_ | refine blk_alloc ?_ _)); exact BK285.out) hg (Kd.R_ne HO_14.out BK285.out (by decide)))
            have n2_ := Aside0.mk (hb)
            have n3_ := Aside0.mk (ho)
            clear HO_11
            clear BK285
            clear HB
            clear HO_14
            have HO_11 := n0_
            have BK285 := n1_
            have HB := n2_
            have HO299 := n3_
            clear n0_ n1_ n2_ n3_
            clear ho hb hg hat
            refine hK.out _ _ ⟨((HB.out.cell (World.block_lt_of_cell? w _ hw293_0)).trans hw293_0), ((HB.out.cell (World.block_lt_of_cell? w _ hw295_0)).trans hw295_0)⟩ (fun hHeld => ?_)
            clear hK K
            refine nS_ ?_
            refine pS_ 16 14 (any_of HT_.out (by kernel_rfl)) rfl rfl ?_
            refine done_ (done_of HT_.out (by kernel_rfl)) ?_
            try go_wp2
            go_roundg k2
            case measure => have := HJ8.out; have := HK2.out; omega
            case rel => exact ⟨(y297), (wrap64 (x49_2 + 1)), (by first | rfl | (simp; done) | (simp [*]; done)), H', ⟨by have := HJ8.out; have := HK2.out; omega⟩, ⟨by (with_reducible repeat (first | apply Kd.R_alloc | apply Kd.R_drewN | apply Kd.R_drew)); exact HO_11.out⟩, ⟨by (with_reducible repeat (first | apply Kd.R_alloc | apply Kd.R_drewN | apply Kd.R_drew)); exact HO299.out⟩, ⟨by (with_reducible repeat (first | refine blk_drewN ?_ _ | refine blk_drew ?_ | refine blk_alloc ?_ _)); exact BK285.out⟩, ⟨bel_⟩⟩
           ·rw [if_neg c24] at H
            exact absurd H (by simp)
          ·rw [if_neg c22] at H
           exact absurd H (by simp)
         ·rw [if_neg c20] at H
          exact absurd H (by simp)
        ·rw [if_neg c19] at H
         exact absurd H (by simp)
       ·rw [if_neg c18] at H
        have c18b0 := decide_eq_false c18
        clear c18
        replace H := Option.bind_eq_some_iff.mp H
        obtain ⟨⟨t300, t301⟩, A270, H⟩ := H
        (try dsimp only at H)
        have A27 := Aside0.mk A270
        clear A270
        replace H := Option.bind_eq_some_iff.mp H
        obtain ⟨⟨t304, t305⟩, A280, H⟩ := H
        (try dsimp only at H)
        have A28 := Aside0.mk A280
        clear A280
        replace H := Option.bind_eq_some_iff.mp H
        obtain ⟨⟨t308, t309⟩, A290, H⟩ := H
        (try dsimp only at H)
        have A29 := Aside0.mk A290
        clear A290
        have HC30 := Aside0.mk H
        clear H
        obtain ⟨Ao31, co31, eo31⟩ := Kd.R_slice HO_11.out
        subst eo31
        go_upto_region 15 with (first | ((with_reducible refine gate_callee (f := 18) rfl ?_); refine goesL_ (some 73) rfl rfl Tryz.func18 (by kernel_rfl) rfl #[toPtr (.slice Ao31 t287.length co31), .slice A1 l1.length c1, .bool a4] rfl (by (try simp only [List.map_toArray, List.map_cons, List.map_nil]); first | done | (rw [hT_HO_11] <;> rfl) | rfl | (simp only [List.length_drop, List.length_take]; rfl)) ?_; (try rw [← hT_HO_11]); (with_reducible refine (dft_Run.calls k2 _ _ t287 _ _ l1 a4 t300 t301 _ ?side1 ?side2 ?side3 ?side4 A27.out).mono ?_); (case side1 => repeat (first | exact (Kd.R_reads' HO_11.out).2.2 | (with_reducible refine Kd.C_alloc ?_ _) | (with_reducible refine Kd.C_drewN ?_ _) | (with_reducible refine Kd.C_drew ?_))); (case side2 => exact (Kd.R_reads' HO_11.out).2.1); (case side3 => repeat (first | exact (Kd.C_below HR1.out HB.out) | (with_reducible refine Kd.C_alloc ?_ _) | (with_reducible refine Kd.C_drewN ?_ _) | (with_reducible refine Kd.C_drew ?_))); (case side4 => exact HC1.out); rintro e w32 ⟨v302, rfl, ho0, hb⟩; refine ⟨_, rfl, ?_⟩; have n0_ := Aside0.mk (Kd.R_below (by (with_reducible repeat (first | apply Kd.R_alloc | apply Kd.R_drewN | apply Kd.R_drew)); exact HO_11.out) hb); have n1_ := Aside0.mk (Kd.R_elder' (by (with_reducible repeat (first | apply Kd.R_alloc | apply Kd.R_drewN | apply Kd.R_drew)); exact HO_14.out) (Kd.R_base ho0) hb); have n2_ := Aside0.mk (Kd.R_lower (Kd.R_new' ho0 (Kd.R_lt (by (with_reducible repeat (first | apply Kd.R_alloc | apply Kd.R_drewN | apply Kd.R_drew)); exact HO_14.out))) (below_size bel_)); have n3_ := Aside0.mk (blk_below (g := gb285) (o := .cells #[.int .i64 a0_0, .int .i64 a0_1, .int .u64 a0_2, .slice A0_3 l0_3.length c0_3] 25 (0, 0)) (by (with_reducible repeat (first | refine blk_drewN ?_ _ | refine blk_drew ?_ | refine blk_alloc ?_ _)); exact BK285.out) hb); have n4_ := Aside0.mk (below_step bel_ hb); clear HO_11; clear HO_14; clear BK285; clear HB; have HO_11 := n0_; have HO_14 := n1_; have HO303 := n2_; have BK285 := n3_; have HB := n4_; clear n0_ n1_ n2_ n3_ n4_; (try clear hb); (try clear hb2); (try clear hk); (try clear hi); (try clear ho0)) | ((with_reducible refine gate_callee (f := 18) rfl ?_); refine goesL_ (some 80) rfl rfl Tryz.func18 (by kernel_rfl) rfl #[toPtr (.slice Ao31 t287.length co31), .slice A2 l2.length c2, .bool a4] rfl (by (try simp only [List.map_toArray, List.map_cons, List.map_nil]); first | done | (rw [hT_HO_11] <;> rfl) | rfl | (simp only [List.length_drop, List.length_take]; rfl)) ?_; (try rw [← hT_HO_11]); (with_reducible refine (dft_Run.calls k2 _ _ t287 _ _ l2 a4 t304 t305 _ ?side1 ?side2 ?side3 ?side4 A28.out).mono ?_); (case side1 => repeat (first | exact (Kd.R_reads' HO_11.out).2.2 | (with_reducible refine Kd.C_alloc ?_ _) | (with_reducible refine Kd.C_drewN ?_ _) | (with_reducible refine Kd.C_drew ?_))); (case side2 => exact (Kd.R_reads' HO_11.out).2.1); (case side3 => repeat (first | exact (Kd.C_below HR2.out HB.out) | (with_reducible refine Kd.C_alloc ?_ _) | (with_reducible refine Kd.C_drewN ?_ _) | (with_reducible refine Kd.C_drew ?_))); (case side4 => exact HC2.out); rintro e w33 ⟨v306, rfl, ho0, hb⟩; refine ⟨_, rfl, ?_⟩; have n0_ := Aside0.mk (Kd.R_below (by (with_reducible repeat (first | apply Kd.R_alloc | apply Kd.R_drewN | apply Kd.R_drew)); exact HO_11.out) hb); have n1_ := Aside0.mk (Kd.R_elder' (by (with_reducible repeat (first | apply Kd.R_alloc | apply Kd.R_drewN | apply Kd.R_drew)); exact HO_14.out) (Kd.R_base ho0) hb); have n2_ := Aside0.mk (Kd.R_elder' (by (with_reducible repeat (first | apply Kd.R_alloc | apply Kd.R_drewN | apply Kd.R_drew)); exact HO303.out) (Kd.R_base ho0) hb); have n3_ := Aside0.mk (Kd.R_lower (Kd.R_new' (Kd.R_new' ho0 (Kd.R_lt (by (with_reducible repeat (first | apply Kd.R_alloc | apply Kd.R_drewN | apply Kd.R_drew)); exact HO_14.out))) (Kd.R_lt (by (with_reducible repeat (first | apply Kd.R_alloc | apply Kd.R_drewN | apply Kd.R_drew)); exact HO303.out))) (below_size bel_)); have n4_ := Aside0.mk (blk_below (g := gb285) (o := .cells #[.int .i64 a0_0, .int .i64 a0_1, .int .u64 a0_2, .slice A0_3 l0_3.length c0_3] 25 (0, 0)) (by (with_reducible repeat (first | refine blk_drewN ?_ _ | refine blk_drew ?_ | refine blk_alloc ?_ _)); exact BK285.out) hb); have n5_ := Aside0.mk (below_step bel_ hb); clear HO_11; clear HO_14; clear HO303; clear BK285; clear HB; have HO_11 := n0_; have HO_14 := n1_; have HO303 := n2_; have HO307 := n3_; have BK285 := n4_; have HB := n5_; clear n0_ n1_ n2_ n3_ n4_ n5_; (try clear hb); (try clear hb2); (try clear hk); (try clear hi); (try clear ho0); obtain ⟨Ao34, co34, eo34⟩ := Kd.R_slice HO_14.out; subst eo34) | ((with_reducible refine gate_callee (f := 18) rfl ?_); refine goesL_ (some 87) rfl rfl Tryz.func18 (by kernel_rfl) rfl #[toPtr (.slice Ao31 t287.length co31), .slice Ao34 x14_2.length co34, .bool a4] rfl (by (try simp only [List.map_toArray, List.map_cons, List.map_nil]); first | done | (rw [hT_HO_11] <;> rfl) | rfl | (simp only [List.length_drop, List.length_take]; rfl)) ?_; (try rw [← hT_HO_11]); (with_reducible refine (dft_Run.calls k2 _ _ t287 _ _ x14_2 a4 t308 t309 _ ?side1 ?side2 ?side3 ?side4 A29.out).mono ?_); (case side1 => repeat (first | exact (Kd.R_reads' HO_11.out).2.2 | (with_reducible refine Kd.C_alloc ?_ _) | (with_reducible refine Kd.C_drewN ?_ _) | (with_reducible refine Kd.C_drew ?_))); (case side2 => exact (Kd.R_reads' HO_11.out).2.1); (case side3 => repeat (first | exact (Kd.R_reads' HO_14.out).2.2 | (with_reducible refine Kd.C_alloc ?_ _) | (with_reducible refine Kd.C_drewN ?_ _) | (with_reducible refine Kd.C_drew ?_))); (case side4 => exact (Kd.R_reads' HO_14.out).2.1); rintro e w35 ⟨v310, rfl, ho0, hb⟩; refine ⟨_, rfl, ?_⟩; have n0_ := Aside0.mk (Kd.R_below (by (with_reducible repeat (first | apply Kd.R_alloc | apply Kd.R_drewN | apply Kd.R_drew)); exact HO_11.out) hb); have n1_ := Aside0.mk (Kd.R_elder' (by (with_reducible repeat (first | apply Kd.R_alloc | apply Kd.R_drewN | apply Kd.R_drew)); exact HO_14.out) (Kd.R_base ho0) hb); have n2_ := Aside0.mk (Kd.R_elder' (by (with_reducible repeat (first | apply Kd.R_alloc | apply Kd.R_drewN | apply Kd.R_drew)); exact HO303.out) (Kd.R_base ho0) hb); have n3_ := Aside0.mk (Kd.R_elder' (by (with_reducible repeat (first | apply Kd.R_alloc | apply Kd.R_drewN | apply Kd.R_drew)); exact HO307.out) (Kd.R_base ho0) hb); have n4_ := Aside0.mk (Kd.R_lower (Kd.R_new' (Kd.R_new' (Kd.R_new' ho0 (Kd.R_lt (by (with_reducible repeat (first | apply Kd.R_alloc | apply Kd.R_drewN | apply Kd.R_drew)); exact HO_14.out))) (Kd.R_lt (by (with_reducible repeat (first | apply Kd.R_alloc | apply Kd.R_drewN | apply Kd.R_drew)); exact HO303.out))) (Kd.R_lt (by (with_reducible repeat (first | apply Kd.R_alloc | apply Kd.R_drewN | apply Kd.R_drew)); exact HO307.out))) (below_size bel_)); have n5_ := Aside0.mk (blk_below (g := gb285) (o := .cells #[.int .i64 a0_0, .int .i64 a0_1, .int .u64 a0_2, .slice A0_3 l0_3.length c0_3] 25 (0, 0)) (by (with_reducible repeat (first | refine blk_drewN ?_ _ | refine blk_drew ?_ | refine blk_alloc ?_ _)); exact BK285.out) hb); have n6_ := Aside0.mk (below_step bel_ hb); clear HO_11; clear HO_14; clear HO303; clear HO307; clear BK285; clear HB; have HO_11 := n0_; have HO_14 := n1_; have HO303 := n2_; have HO307 := n3_; have HO311 := n4_; have BK285 := n5_; have HB := n6_; clear n0_ n1_ n2_ n3_ n4_ n5_ n6_; (try clear hb); (try clear hb2); (try clear hk); (try clear hi); (try clear ho0)))
        (try simp only [Act.put, List.setIfInBounds_toArray, List.set_cons_zero, List.set_cons_succ])
        go_cut [120] (fun v120 wc => ∃ (kq : Nat) (x120_29 : Bool), v120 = .bool x120_29 ∧ Aside0 (epicyclelaw11_DftLinear.j2 kq a3 t290 t300 t304 t308 x120_29 = some true) ∧ Aside0 (kq ≤ k2) ∧ Aside0 (Kd.R (Kd.int .u64) 22 wc w.heap.size (fun k_ => some k_ ≠ (v306 : Value).ownBlock ∧ some k_ ≠ (v310 : Value).ownBlock) v302 t300) ∧ Aside0 (Kd.R (Kd.int .u64) 22 wc w.heap.size (fun k_ => some k_ ≠ (v302 : Value).ownBlock ∧ some k_ ≠ (v310 : Value).ownBlock) v306 t304) ∧ Aside0 (Kd.R (Kd.int .u64) 22 wc w.heap.size (fun k_ => some k_ ≠ (v302 : Value).ownBlock ∧ some k_ ≠ (v306 : Value).ownBlock) v310 t308) ∧ Aside0 (wc.heap[gb285]? = some (.cells #[.int .i64 a0_0, .int .i64 a0_1, .int .u64 a0_2, (.slice A0_3 l0_3.length c0_3)] 25 (0, 0))) ∧ Aside0 (Below w.heap.size w wc))
        case first =>
         have H := HC30.out
         clear HC30
         by_cases c36 : t301 = 0
         ·rw [if_pos c36] at H
          have c36b0 := beq_iff_eq.mpr c36
          have c36b1 := bne_eq_false_iff_eq.mpr c36
          clear c36
          (first | rw [c36b0] | (simp only [i64_w, i32_w]; rw [c36b0]) | skip)
          by_cases c37 : t305 = 0
          ·rw [if_pos c37] at H
           have c37b0 := beq_iff_eq.mpr c37
           have c37b1 := bne_eq_false_iff_eq.mpr c37
           clear c37
           by_cases c38 : t309 = 0
           ·rw [if_pos c38] at H
            have c38b0 := beq_iff_eq.mpr c38
            have c38b1 := bne_eq_false_iff_eq.mpr c38
            clear c38
            by_cases c39 : (t300.length : Int) = (l1.length : Int)
            ·rw [if_pos c39] at H
             have c39b0 := beq_iff_eq.mpr c39
             have c39b1 := bne_eq_false_iff_eq.mpr c39
             have c39b2 : (t300.length == l1.length) = true := by first | simpa using c39 | (simp at c39 ⊢; omega)
             clear c39
             by_cases c40 : (t304.length : Int) = (l1.length : Int)
             ·rw [if_pos c40] at H
              have c40b0 := beq_iff_eq.mpr c40
              have c40b1 := bne_eq_false_iff_eq.mpr c40
              have c40b2 : (t304.length == l1.length) = true := by first | simpa using c40 | (simp at c40 ⊢; omega)
              clear c40
              have H' := Aside0.mk H
              clear H
              obtain ⟨Ao41, co41, eo41⟩ := Kd.R_slice HO303.out
              subst eo41
              obtain ⟨Ao42, co42, eo42⟩ := Kd.R_slice HO307.out
              subst eo42
              obtain ⟨Ao43, co43, eo43⟩ := Kd.R_slice HO311.out
              subst eo43
              go_wp2
              go_meet
              case rel => exact ⟨_, (((t308.length : Int) != (l1.length : Int))), (by first | rfl | (simp; done) | (simp [*]; done)), H', ⟨by have := HJ8.out; have := HK2.out; first | omega | exact Nat.le_refl _⟩, ⟨by (with_reducible repeat (first | apply Kd.R_alloc | apply Kd.R_drewN | apply Kd.R_drew)); exact Kd.R_mono HO303.out (fun _ hk => ⟨hk.1.2, hk.2⟩)⟩, ⟨by (with_reducible repeat (first | apply Kd.R_alloc | apply Kd.R_drewN | apply Kd.R_drew)); exact Kd.R_mono HO307.out (fun _ hk => ⟨hk.1.2, hk.2⟩)⟩, ⟨by (with_reducible repeat (first | apply Kd.R_alloc | apply Kd.R_drewN | apply Kd.R_drew)); exact Kd.R_mono HO311.out (fun _ hk => ⟨hk.1.2, hk.2⟩)⟩, ⟨by (with_reducible repeat (first | refine blk_drewN ?_ _ | refine blk_drew ?_ | refine blk_alloc ?_ _)); exact BK285.out⟩, ⟨bel_⟩⟩
             ·rw [if_neg c40] at H
              have c40b0 := beq_eq_false_iff_ne.mpr c40
              have c40b1 := bne_iff_ne.mpr c40
              have c40b2 : (t304.length == l1.length) = false := by first | simpa using c40 | (simp at c40 ⊢; omega)
              have H' := Aside0.mk H
              clear H
              obtain ⟨Ao44, co44, eo44⟩ := Kd.R_slice HO303.out
              subst eo44
              obtain ⟨Ao45, co45, eo45⟩ := Kd.R_slice HO307.out
              subst eo45
              go_wp2
              go_meet
              case rel => exact ⟨_, (true), (by first | rfl | (simp; done) | (simp [*]; done)), H', ⟨by have := HJ8.out; have := HK2.out; first | omega | exact Nat.le_refl _⟩, ⟨by (with_reducible repeat (first | apply Kd.R_alloc | apply Kd.R_drewN | apply Kd.R_drew)); exact Kd.R_mono HO303.out (fun _ hk => ⟨hk.1.2, hk.2⟩)⟩, ⟨by (with_reducible repeat (first | apply Kd.R_alloc | apply Kd.R_drewN | apply Kd.R_drew)); exact Kd.R_mono HO307.out (fun _ hk => ⟨hk.1.2, hk.2⟩)⟩, ⟨by (with_reducible repeat (first | apply Kd.R_alloc | apply Kd.R_drewN | apply Kd.R_drew)); exact Kd.R_mono HO311.out (fun _ hk => ⟨hk.1.2, hk.2⟩)⟩, ⟨by (with_reducible repeat (first | refine blk_drewN ?_ _ | refine blk_drew ?_ | refine blk_alloc ?_ _)); exact BK285.out⟩, ⟨bel_⟩⟩
            ·rw [if_neg c39] at H
             have c39b0 := beq_eq_false_iff_ne.mpr c39
             have c39b1 := bne_iff_ne.mpr c39
             have c39b2 : (t300.length == l1.length) = false := by first | simpa using c39 | (simp at c39 ⊢; omega)
             have H' := Aside0.mk H
             clear H
             obtain ⟨Ao46, co46, eo46⟩ := Kd.R_slice HO303.out
             subst eo46
             go_wp2
             go_meet
             case rel => exact ⟨_, (true), (by first | rfl | (simp; done) | (simp [*]; done)), H', ⟨by have := HJ8.out; have := HK2.out; first | omega | exact Nat.le_refl _⟩, ⟨by (with_reducible repeat (first | apply Kd.R_alloc | apply Kd.R_drewN | apply Kd.R_drew)); exact Kd.R_mono HO303.out (fun _ hk => ⟨hk.1.2, hk.2⟩)⟩, ⟨by (with_reducible repeat (first | apply Kd.R_alloc | apply Kd.R_drewN | apply Kd.R_drew)); exact Kd.R_mono HO307.out (fun _ hk => ⟨hk.1.2, hk.2⟩)⟩, ⟨by (with_reducible repeat (first | apply Kd.R_alloc | apply Kd.R_drewN | apply Kd.R_drew)); exact Kd.R_mono HO311.out (fun _ hk => ⟨hk.1.2, hk.2⟩)⟩, ⟨by (with_reducible repeat (first | refine blk_drewN ?_ _ | refine blk_drew ?_ | refine blk_alloc ?_ _)); exact BK285.out⟩, ⟨bel_⟩⟩
           ·rw [if_neg c38] at H
            have c38b0 := beq_eq_false_iff_ne.mpr c38
            have c38b1 := bne_iff_ne.mpr c38
            have H' := Aside0.mk H
            clear H
            go_wp2
            go_meet
            case rel => exact ⟨_, (true), (by first | rfl | (simp; done) | (simp [*]; done)), H', ⟨by have := HJ8.out; have := HK2.out; first | omega | exact Nat.le_refl _⟩, ⟨by (with_reducible repeat (first | apply Kd.R_alloc | apply Kd.R_drewN | apply Kd.R_drew)); exact Kd.R_mono HO303.out (fun _ hk => ⟨hk.1.2, hk.2⟩)⟩, ⟨by (with_reducible repeat (first | apply Kd.R_alloc | apply Kd.R_drewN | apply Kd.R_drew)); exact Kd.R_mono HO307.out (fun _ hk => ⟨hk.1.2, hk.2⟩)⟩, ⟨by (with_reducible repeat (first | apply Kd.R_alloc | apply Kd.R_drewN | apply Kd.R_drew)); exact Kd.R_mono HO311.out (fun _ hk => ⟨hk.1.2, hk.2⟩)⟩, ⟨by (with_reducible repeat (first | refine blk_drewN ?_ _ | refine blk_drew ?_ | refine blk_alloc ?_ _)); exact BK285.out⟩, ⟨bel_⟩⟩
          ·rw [if_neg c37] at H
           have c37b0 := beq_eq_false_iff_ne.mpr c37
           have c37b1 := bne_iff_ne.mpr c37
           have H' := Aside0.mk H
           clear H
           go_wp2
           go_meet
           case rel => exact ⟨_, (true), (by first | rfl | (simp; done) | (simp [*]; done)), H', ⟨by have := HJ8.out; have := HK2.out; first | omega | exact Nat.le_refl _⟩, ⟨by (with_reducible repeat (first | apply Kd.R_alloc | apply Kd.R_drewN | apply Kd.R_drew)); exact Kd.R_mono HO303.out (fun _ hk => ⟨hk.1.2, hk.2⟩)⟩, ⟨by (with_reducible repeat (first | apply Kd.R_alloc | apply Kd.R_drewN | apply Kd.R_drew)); exact Kd.R_mono HO307.out (fun _ hk => ⟨hk.1.2, hk.2⟩)⟩, ⟨by (with_reducible repeat (first | apply Kd.R_alloc | apply Kd.R_drewN | apply Kd.R_drew)); exact Kd.R_mono HO311.out (fun _ hk => ⟨hk.1.2, hk.2⟩)⟩, ⟨by (with_reducible repeat (first | refine blk_drewN ?_ _ | refine blk_drew ?_ | refine blk_alloc ?_ _)); exact BK285.out⟩, ⟨bel_⟩⟩
         ·rw [if_neg c36] at H
          have c36b0 := beq_eq_false_iff_ne.mpr c36
          have c36b1 := bne_iff_ne.mpr c36
          (first | rw [c36b0] | (simp only [i64_w, i32_w]; rw [c36b0]) | skip)
          have H' := Aside0.mk H
          clear H
          go_wp2
          go_meet
          case rel => exact ⟨_, (true), (by first | rfl | (simp; done) | (simp [*]; done)), H', ⟨by have := HJ8.out; have := HK2.out; first | omega | exact Nat.le_refl _⟩, ⟨by (with_reducible repeat (first | apply Kd.R_alloc | apply Kd.R_drewN | apply Kd.R_drew)); exact Kd.R_mono HO303.out (fun _ hk => ⟨hk.1.2, hk.2⟩)⟩, ⟨by (with_reducible repeat (first | apply Kd.R_alloc | apply Kd.R_drewN | apply Kd.R_drew)); exact Kd.R_mono HO307.out (fun _ hk => ⟨hk.1.2, hk.2⟩)⟩, ⟨by (with_reducible repeat (first | apply Kd.R_alloc | apply Kd.R_drewN | apply Kd.R_drew)); exact Kd.R_mono HO311.out (fun _ hk => ⟨hk.1.2, hk.2⟩)⟩, ⟨by (with_reducible repeat (first | refine blk_drewN ?_ _ | refine blk_drew ?_ | refine blk_alloc ?_ _)); exact BK285.out⟩, ⟨bel_⟩⟩
        case rest =>
         clear HC30
         try clear c1
         try clear c2
         try clear p2
         try clear q2
         try clear hx2
         try clear c3
         try clear c4
         try clear c6
         try clear p6
         try clear c7
         try clear c14
         try clear c15
         try clear c15b0
         try clear c15b1
         try clear c15b2
         try clear c16
         try clear c17
         try clear c18
         try clear c18b0
         try clear c19
         try clear c19b0
         try clear c20
         try clear c20b0
         try clear c22
         try clear c22b0
         try clear c24
         try clear c26
         try clear c27
         try clear c28
         try clear p29
         try clear q29
         try clear hx29
         try clear c36
         try clear c36b0
         try clear c36b1
         try clear c37
         try clear c37b0
         try clear c37b1
         try clear c38
         try clear c38b0
         try clear c38b1
         try clear c39
         try clear c39b0
         try clear c39b1
         try clear c39b2
         try clear c40
         try clear c40b0
         try clear c40b1
         try clear c40b2
         try clear hcz12_0
         try clear hcz12_1
         try clear hcz12_2
         try clear hcz12_3
         try clear hfz12_0
         try clear hfz12_1
         try clear hfz12_2
         try clear hfz12_3
         try clear hx293_0
         try clear hx295_0
         try clear p2
         try clear p293
         try clear p295
         try clear q293
         try clear q295
         obtain ⟨kq, x120_29, rfl, HA, HJ29, HO_16, HO_18, HO_20, BK285, HB⟩ := hcut
         cases kq with
         | zero => exact absurd HA.out (by simp [epicyclelaw11_DftLinear.j2])
         | succ kj29 =>
          have H := HA.out
          clear HA
          simp only [epicyclelaw11_DftLinear.j2] at H
          by_cases c47 : x120_29 = true
          ·subst c47
           have H1 := H; rw [if_pos rfl] at H1
           clear H
           have H := H1
           clear H1
           exact absurd H (by simp)
          ·replace c47 := Bool.eq_false_iff.mpr c47
           subst c47
           have H1 := H; rw [if_neg (show ¬ (false = true) by decide)] at H1
           clear H
           have H := H1
           clear H1
           have H' := Aside0.mk H
           clear H
           obtain ⟨Ao48, co48, eo48⟩ := Kd.R_slice HO_20.out
           subst eo48
           go_wp2
           go_loopg [123] kj29 (fun kq v123 w' => ∃ (x123_4 : Int), v123 = .int .i64 x123_4 ∧ Aside0 (epicyclelaw11_DftLinear.l1 kq a3 t290 t300 t304 t308 (t308.length : Int) x123_4 = some true) ∧ Aside0 (kq ≤ kj29) ∧ Aside0 (Kd.R (Kd.int .u64) 22 w' w.heap.size (fun k_ => some k_ ≠ (v306 : Value).ownBlock ∧ some k_ ≠ ((.slice Ao48 t308.length co48) : Value).ownBlock) v302 t300) ∧ Aside0 (Kd.R (Kd.int .u64) 22 w' w.heap.size (fun k_ => some k_ ≠ (v302 : Value).ownBlock ∧ some k_ ≠ ((.slice Ao48 t308.length co48) : Value).ownBlock) v306 t304) ∧ Aside0 (Kd.R (Kd.int .u64) 22 w' w.heap.size (fun k_ => some k_ ≠ (v302 : Value).ownBlock ∧ some k_ ≠ (v306 : Value).ownBlock) (.slice Ao48 t308.length co48) t308) ∧ Aside0 (w'.heap[gb285]? = some (.cells #[.int .i64 a0_0, .int .i64 a0_1, .int .u64 a0_2, (.slice A0_3 l0_3.length c0_3)] 25 (0, 0))) ∧ Aside0 (Below w.heap.size w w'))
           case atStart => exact ⟨(0), (by first | rfl | (simp; done) | (simp [*]; done)), H', ⟨Nat.le_refl _⟩, ⟨by (with_reducible repeat (first | apply Kd.R_alloc | apply Kd.R_drewN | apply Kd.R_drew)); exact HO_16.out⟩, ⟨by (with_reducible repeat (first | apply Kd.R_alloc | apply Kd.R_drewN | apply Kd.R_drew)); exact HO_18.out⟩, ⟨by (with_reducible repeat (first | apply Kd.R_alloc | apply Kd.R_drewN | apply Kd.R_drew)); exact HO_20.out⟩, ⟨by (with_reducible repeat (first | refine blk_drewN ?_ _ | refine blk_drew ?_ | refine blk_alloc ?_ _)); exact BK285.out⟩, ⟨bel_⟩⟩
           case round =>
            clear H'
            try clear c1
            try clear c2
            try clear p2
            try clear q2
            try clear hx2
            try clear c3
            try clear c4
            try clear c6
            try clear p6
            try clear c7
            try clear c14
            try clear c15
            try clear c15b0
            try clear c15b1
            try clear c15b2
            try clear c16
            try clear c17
            try clear c18
            try clear c18b0
            try clear c19
            try clear c19b0
            try clear c20
            try clear c20b0
            try clear c22
            try clear c22b0
            try clear c24
            try clear c26
            try clear c27
            try clear c28
            try clear p29
            try clear q29
            try clear hx29
            try clear c36
            try clear c36b0
            try clear c36b1
            try clear c37
            try clear c37b0
            try clear c37b1
            try clear c38
            try clear c38b0
            try clear c38b1
            try clear c39
            try clear c39b0
            try clear c39b1
            try clear c39b2
            try clear c40
            try clear c40b0
            try clear c40b1
            try clear c40b2
            try clear c47
            try clear hcz12_0
            try clear hcz12_1
            try clear hcz12_2
            try clear hcz12_3
            try clear hfz12_0
            try clear hfz12_1
            try clear hfz12_2
            try clear hfz12_3
            try clear hx293_0
            try clear hx295_0
            try clear p2
            try clear p29
            try clear p293
            try clear p295
            try clear p6
            try clear q2
            try clear q29
            try clear q293
            try clear q295
            obtain ⟨x123_4, rfl, HA, HK4, HO_16, HO_18, HO_20, BK285, HB⟩ := hrel
            cases gk with
            | zero => exact absurd HA.out (by simp [epicyclelaw11_DftLinear.l1])
            | succ k4 =>
             have H := HA.out
             clear HA
             simp only [epicyclelaw11_DftLinear.l1] at H
             by_cases c49 : x123_4 < (t308.length : Int)
             ·rw [if_pos c49] at H
              have c49b0 := decide_eq_true c49
              clear c49
              by_cases c50 : 0 ≤ x123_4
              ·rw [if_pos c50] at H
               have c50b0 := decide_eq_true c50
               clear c50
               by_cases c51 : x123_4 < (t308.length : Int)
               ·rw [if_pos c51] at H
                have c51b0 := decide_eq_true c51
                clear c51
                by_cases c52 : x123_4 < (t300.length : Int)
                ·rw [if_pos c52] at H
                 have c52b0 := decide_eq_true c52
                 clear c52
                 replace H := Option.bind_eq_some_iff.mp H
                 obtain ⟨t314, A530, H⟩ := H
                 (try dsimp only at H)
                 have A53 := Aside0.mk A530
                 clear A530
                 by_cases c54 : x123_4 < (t304.length : Int)
                 ·rw [if_pos c54] at H
                  have c54b0 := decide_eq_true c54
                  clear c54
                  replace H := Option.bind_eq_some_iff.mp H
                  obtain ⟨t316, A550, H⟩ := H
                  (try dsimp only at H)
                  have A55 := Aside0.mk A550
                  clear A550
                  by_cases c56 : (rd t308 x123_4) = t316
                  ·rw [if_pos c56] at H
                   have c56b0 := beq_iff_eq.mpr c56
                   have c56b1 := bne_eq_false_iff_eq.mpr c56
                   clear c56
                   have H' := Aside0.mk H
                   clear H
                   try go_wp2
                   have n0_ := Aside0.mk (Kd.R_drew HO_16.out)
                   have n1_ := Aside0.mk (Kd.R_drew HO_18.out)
                   have n2_ := Aside0.mk (Kd.R_drew HO_20.out)
                   have n3_ := Aside0.mk (blk_drew BK285.out)
                   have n4_ := Aside0.mk (below_drew1 HB.out)
                   clear HO_16
                   clear HO_18
                   clear HO_20
                   clear BK285
                   clear HB
                   have HO_16 := n0_
                   have HO_18 := n1_
                   have HO_20 := n2_
                   have BK285 := n3_
                   have HB := n4_
                   clear n0_ n1_ n2_ n3_ n4_
                   have p312 : 0 ≤ (x123_4 : Int) := of_decide_eq_true (by assumption)
                   have q312 : x123_4 < (t308.length : Int) := of_decide_eq_true (by assumption)
                   obtain ⟨ad312, e312, hx312_0⟩ := Kd.at_int (Kd.R_reads' HO_20.out).2.2 x123_4 p312 q312
                   cases e312
                   replace p312 := eq_true p312
                   replace q312 := eq_true q312
                   obtain ⟨Ao58, co58, eo58⟩ := Kd.R_slice HO_16.out
                   (first | subst eo58 | (injection eo58 with f1_ f2_ f3_; have f4_ := f1_.symm; have f5_ := f3_.symm; clear f1_ f2_ f3_; subst f4_; subst f5_))
                   have p313 : 0 ≤ (x123_4 : Int) := of_decide_eq_true (by assumption)
                   have q313 : x123_4 < (t300.length : Int) := of_decide_eq_true (by assumption)
                   obtain ⟨ad313, e313, hx313_0⟩ := Kd.at_int (Kd.R_reads' HO_16.out).2.2 x123_4 p313 q313
                   cases e313
                   replace p313 := eq_true p313
                   replace q313 := eq_true q313
                   obtain ⟨Ao59, co59, eo59⟩ := Kd.R_slice HO_18.out
                   (first | subst eo59 | (injection eo59 with f1_ f2_ f3_; have f4_ := f1_.symm; have f5_ := f3_.symm; clear f1_ f2_ f3_; subst f4_; subst f5_))
                   have p315 : 0 ≤ (x123_4 : Int) := of_decide_eq_true (by assumption)
                   have q315 : x123_4 < (t304.length : Int) := of_decide_eq_true (by assumption)
                   obtain ⟨ad315, e315, hx315_0⟩ := Kd.at_int (Kd.R_reads' HO_18.out).2.2 x123_4 p315 q315
                   cases e315
                   replace p315 := eq_true p315
                   replace q315 := eq_true q315
                   refine start_ (n := 18) (S := fun w' => w'.cell? (ad312.add (x123_4).toNat) = some (.int .u64 (rd t308 x123_4)) ∧ w'.cell? (ad313.add (x123_4).toNat) = some (.int .u64 (rd t300 x123_4)) ∧ w'.cell? (ad315.add (x123_4).toNat) = some (.int .u64 (rd t304 x123_4))) (ds := []) #[false, false, false, false, false, false, false, false, false, false, false, false, false, false, false, false, false, false] (by kernel_rfl) rfl rfl ⟨hx312_0, hx313_0, hx315_0⟩ (fun hHeld => ?_); refine with_tabW epicyclelaw11_DftLinear.tab20 epicyclelaw11_DftLinear.bits20 (fun HT_ HW_ => ?_)
                   generalize wr.drew = w57 at HO_16 HO_18 HO_20 BK285 HB hx312_0 hx313_0 hx315_0 hHeld ⊢
                   refine pS_ 0 126 (any_of HT_.out (by kernel_rfl)) rfl rfl ?_
                   refine pS_ 1 127 (any_of HT_.out (by kernel_rfl)) rfl rfl ?_
                   refine pS_ 2 128 (any_of HT_.out (by kernel_rfl)) rfl rfl ?_
                   refine pS_ 4 130 (any_of HT_.out (by kernel_rfl)) rfl rfl ?_
                   refine pS_ 5 131 (any_of HT_.out (by kernel_rfl)) rfl rfl ?_
                   refine pS_ 6 132 (any_of HT_.out (by kernel_rfl)) rfl rfl ?_
                   refine pS_ 7 133 (any_of HT_.out (by kernel_rfl)) rfl rfl ?_
                   refine pS_ 9 135 (any_of HT_.out (by kernel_rfl)) rfl rfl ?_
                   refine pS_ 11 137 (any_of HT_.out (by kernel_rfl)) rfl rfl ?_
                   refine pS_ 12 138 (any_of HT_.out (by kernel_rfl)) rfl rfl ?_
                   refine pS_ 13 139 (any_of HT_.out (by kernel_rfl)) rfl rfl ?_
                   refine pS_ 15 141 (any_of HT_.out (by kernel_rfl)) rfl rfl ?_
                   refine tS_ 3 129 (take_ofW HT_.out HW_.out (by kernel_rfl)) hHeld (by rintro w' ⟨s0, s1, s2⟩; go_simp; with_reducible rfl) rfl rfl ?_
                   refine tS_ 8 134 (take_ofW HT_.out HW_.out (by kernel_rfl)) hHeld (by rintro w' ⟨s0, s1, s2⟩; go_simp; with_reducible rfl) rfl rfl ?_
                   refine tS_ 14 140 (take_ofW HT_.out HW_.out (by kernel_rfl)) hHeld (by rintro w' ⟨s0, s1, s2⟩; go_simp; with_reducible rfl) rfl rfl ?_
                   refine one_ (i := 10) (N := some 136) #[true, true, true, true, true, true, true, true, true, true, true, true, true, true, true, true, false, false] rfl rfl (one_of HT_.out (by kernel_rfl)) (by decide) (fun K hK => ?_)
                   refine goes_ Tryz.func26 (by kernel_rfl) rfl #[.int .u64 a3, .int .u64 (rd t300 x123_4), .int .u64 t290] (by rfl) rfl rfl (by (try simp only [List.map_toArray, List.map_cons, List.map_nil]); first | done | rfl | (simp only [List.length_drop, List.length_take]; rfl)) ?_
                   with_reducible refine (epicycleref02_Mul.calls k4 a3 (rd t300 x123_4) t290 t314 _ A53.out).mono ?_
                   rintro e w' ⟨rfl, ⟨nd, rfl⟩⟩
                   refine ⟨_, rfl, ?_⟩
                   refine hK.out _ _ ⟨hHeld.1, hHeld.2.1, hHeld.2.2⟩ (fun hHeld => ?_)
                   clear hK K
                   refine nS_ ?_
                   refine one_ (i := 16) (N := some 142) #[true, true, true, true, true, true, true, true, true, true, true, true, true, true, true, true, true, false] rfl rfl (one_of HT_.out (by kernel_rfl)) (by decide) (fun K hK => ?_)
                   refine goes_ Tryz.func28 (by kernel_rfl) rfl #[.int .u64 t314, .int .u64 (rd t304 x123_4), .int .u64 t290] (by rfl) rfl rfl (by (try simp only [List.map_toArray, List.map_cons, List.map_nil]); first | done | rfl | (simp only [List.length_drop, List.length_take]; rfl)) ?_
                   with_reducible refine (epicycleref02_Add.calls t314 (rd t304 x123_4) t290 t316 _ A55.out).mono ?_
                   rintro e w' ⟨rfl, ⟨nd, rfl⟩⟩
                   refine ⟨_, rfl, ?_⟩
                   refine hK.out _ _ ⟨hHeld.1, hHeld.2.1, hHeld.2.2⟩ (fun hHeld => ?_)
                   clear hK K
                   refine nS_ ?_
                   refine pS_ 17 143 (any_of HT_.out (by kernel_rfl)) rfl rfl ?_
                   refine done_ (done_of HT_.out (by kernel_rfl)) ?_
                   try go_wp2
                   go_roundg k4
                   case measure => have := HJ8.out; have := HK2.out; have := HJ29.out; have := HK4.out; omega
                   case rel => exact ⟨(wrap64 (x123_4 + 1)), (by first | rfl | (simp; done) | (simp [*]; done)), H', ⟨by have := HJ8.out; have := HK2.out; have := HJ29.out; have := HK4.out; omega⟩, ⟨by (with_reducible repeat (first | apply Kd.R_alloc | apply Kd.R_drewN | apply Kd.R_drew)); exact HO_16.out⟩, ⟨by (with_reducible repeat (first | apply Kd.R_alloc | apply Kd.R_drewN | apply Kd.R_drew)); exact HO_18.out⟩, ⟨by (with_reducible repeat (first | apply Kd.R_alloc | apply Kd.R_drewN | apply Kd.R_drew)); exact HO_20.out⟩, ⟨by (with_reducible repeat (first | refine blk_drewN ?_ _ | refine blk_drew ?_ | refine blk_alloc ?_ _)); exact BK285.out⟩, ⟨bel_⟩⟩
                  ·rw [if_neg c56] at H
                   have c56b0 := beq_eq_false_iff_ne.mpr c56
                   have c56b1 := bne_iff_ne.mpr c56
                   exact absurd H (by simp)
                 ·rw [if_neg c54] at H
                  exact absurd H (by simp)
                ·rw [if_neg c52] at H
                 exact absurd H (by simp)
               ·rw [if_neg c51] at H
                exact absurd H (by simp)
              ·rw [if_neg c50] at H
               exact absurd H (by simp)
             ·rw [if_neg c49] at H
              have c49b0 := decide_eq_false c49
              clear c49
              clear H
              go_wp2
              go_ret
              exact ⟨by first | rfl | (simp [errW_none, errW_some] <;> rfl) | (simp [*, errW_none, errW_some] <;> rfl), bel_⟩
 ·replace c7 := Bool.eq_false_iff.mpr c7
  subst c7
  have H1 := H; rw [if_neg (show ¬ (false = true) by decide)] at H1
  clear H
  have H := H1
  clear H1
  exact absurd H (by simp)
end Go.Proofs.YtndkmnjbjlfeaaaGreat.XG
end
section
namespace Go.Proofs.YtndkmnjbjlfeaaaGreat.XG
open Go.RowKit Go.Proofs.YtndkmnjbjlfeaaaGreat.Given Go.Proofs.YtndkmnjbjlfeaaaGreat.Row05 Go.Proofs.YtndkmnjbjlfeaaaGreat.XS Go.Proofs.YtndkmnjbjlfeaaaGreat.XT Go.Proofs.YtndkmnjbjlfeaaaGreat.XR Go.Proofs.YtndkmnjbjlfeaaaGreat.F06 Go.Proofs.YtndkmnjbjlfeaaaGreat.XK Go.Proofs.YtndkmnjbjlfeaaaGreat.XW Go.Proofs.YtndkmnjbjlfeaaaGreatW.PrintWords Go.Proofs.YtndkmnjbjlfeaaaGreatW.PrintLast Go.Proofs.YtndkmnjbjlfeaaaGreatW.PrintMore
attribute [local go_sem] max2_int min2_int max_two min_two max_three min_three max_four min_four   -- for this text's walks alone
set_option linter.unusedVariables false
set_option linter.unusedSimpArgs false
end Go.Proofs.YtndkmnjbjlfeaaaGreat.XG
end
section
namespace Go.Proofs.YtndkmnjbjlfeaaaGreat.XG
open Go.RowKit Go.Proofs.YtndkmnjbjlfeaaaGreat.Given Go.Proofs.YtndkmnjbjlfeaaaGreat.Row05 Go.Proofs.YtndkmnjbjlfeaaaGreat.XS Go.Proofs.YtndkmnjbjlfeaaaGreat.XT Go.Proofs.YtndkmnjbjlfeaaaGreat.XR Go.Proofs.YtndkmnjbjlfeaaaGreat.F06 Go.Proofs.YtndkmnjbjlfeaaaGreat.XK Go.Proofs.YtndkmnjbjlfeaaaGreat.XW Go.Proofs.YtndkmnjbjlfeaaaGreatW.PrintWords Go.Proofs.YtndkmnjbjlfeaaaGreatW.PrintLast Go.Proofs.YtndkmnjbjlfeaaaGreatW.PrintMore
attribute [local go_sem] max2_int min2_int max_two min_two max_three min_three max_four min_four   -- for this text's walks alone
set_option linter.unusedVariables false
set_option linter.unusedSimpArgs false
end Go.Proofs.YtndkmnjbjlfeaaaGreat.XG
end
section
namespace Go.Proofs.YtndkmnjbjlfeaaaGreat.XG
open Go.RowKit Go.Proofs.YtndkmnjbjlfeaaaGreat.Given Go.Proofs.YtndkmnjbjlfeaaaGreat.Row05 Go.Proofs.YtndkmnjbjlfeaaaGreat.XS Go.Proofs.YtndkmnjbjlfeaaaGreat.XT Go.Proofs.YtndkmnjbjlfeaaaGreat.XR Go.Proofs.YtndkmnjbjlfeaaaGreat.F06 Go.Proofs.YtndkmnjbjlfeaaaGreat.XK Go.Proofs.YtndkmnjbjlfeaaaGreat.XW Go.Proofs.YtndkmnjbjlfeaaaGreatW.PrintWords Go.Proofs.YtndkmnjbjlfeaaaGreatW.PrintLast Go.Proofs.YtndkmnjbjlfeaaaGreatW.PrintMore
attribute [local go_sem] max2_int min2_int max_two min_two max_three min_three max_four min_four   -- for this text's walks alone
set_option linter.unusedVariables false
set_option linter.unusedSimpArgs false
end Go.Proofs.YtndkmnjbjlfeaaaGreat.XG
end
