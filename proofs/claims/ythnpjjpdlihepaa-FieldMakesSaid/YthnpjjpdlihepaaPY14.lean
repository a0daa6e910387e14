/- Parts of this claim's texts, packed by wip/tools/prune.py: what the proof does not reach is left out. -/
import Derived.Test.YthnpjjpdlihepaaPY13
section
namespace Go.Proofs.Ythnpjjpdlihepaa.XF
open Go.RowKit Go.Proofs.Ythnpjjpdlihepaa.Given Go.Proofs.Ythnpjjpdlihepaa.Row05 Go.Proofs.Ythnpjjpdlihepaa.XS Go.Proofs.Ythnpjjpdlihepaa.XT Go.Proofs.Ythnpjjpdlihepaa.XR Go.Proofs.Ythnpjjpdlihepaa.F06 Go.Proofs.Ythnpjjpdlihepaa.XK Go.Proofs.YthnpjjpdlihepaaW.PrintWords Go.Proofs.YthnpjjpdlihepaaW.PrintLast Go.Proofs.YthnpjjpdlihepaaW.PrintMore
attribute [local go_sem] max2_int min2_int max_two min_two max_three min_three max_four min_four   -- for this text's walks alone
set_option linter.unusedVariables false
set_option linter.unusedSimpArgs false
theorem swapS {P : Program} {md : Region.Mode} {ops : Array Oper} {Q : Exit → Act → World → Prop} {S S' : World → Prop} (hs : ∀ w, S' w → S w) : ∀ (fuel : Nat) (l : Array Bool) (a : Act) (w : World), S' w → (S' w → wpAnyLast P md ops Q S' [] fuel l a w) → wpAnyLast P md ops Q S [] fuel l a w
 | 0, _, _, _, h', h => h h'
 | fuel + 1, l, a, w, h', h => ⟨(h h').1, fun i hi => wpOp_mono (fun a' w' k => ⟨fun _ _ => hs _ (k.1 (by simp) h'), swapS hs fuel _ a' w' (k.1 (by simp) h') (fun _ => k.2)⟩) ((h h').2 i hi)⟩
mutual
noncomputable def epicyclelaw06_FieldMakes.l0 : Nat → Int → Int → List (S52) → Int → Int → Int → Int → Int → List (S52) → Option (Bool)
 | 0, _, _, _, _, _, _, _, _, _ => none
 | k + 1, x1, x2, x27, x28, x29, x213000, x213001, x213002, x213003 => if x29 < x28 then (if 0 ≤ x29 then (if x29 < (x27.length : Int) then (if (((rd_T52 x27 x29).f2).length : Int) > 20 then (some true) else (epicyclelaw06_FieldMakes.l0 k x1 x2 x27 x28 (wrap64 (x29 + 1)) x213000 x213001 x213002 x213003)) else (none)) else (none)) else ((epicycleref06_Of.f k x213000 x213001 x213002 x213003).bind fun bt216 => (if x213000 = 0 then ((field_Small.f k x213002).bind fun bt219 => (epicyclelaw06_FieldMakes.j1 k x1 x2 bt216.1 bt216.2.1 bt216.2.2 bt219.1 bt219.2)) else (if x213000 = 1 then ((field_Known.f k x213001).bind fun bt223 => (epicyclelaw06_FieldMakes.j1 k x1 x2 bt216.1 bt216.2.1 bt216.2.2 bt223.1 bt223.2)) else ((epicyclelaw06_rows.f k x213003).bind fun t227 => ((field_New.f k t227 x213002).bind fun bt230 => (epicyclelaw06_FieldMakes.j1 k x1 x2 bt216.1 bt216.2.1 bt216.2.2 bt230.1 bt230.2))))))
noncomputable def epicyclelaw06_FieldMakes.j1 : Nat → Int → Int → Int → Int → Int → List (Fld) → Int → Option (Bool)
 | 0, _, _, _, _, _, _, _ => none
 | k + 1, x1, x2, x9, x10, x11, x12, x13 => if x13 = x11 then ((field_Field_P.f x12).bind fun t234 => (if t234 = x9 then ((field_Field_G.f x12).bind fun t235 => (if t235 = x10 then ((field_Field_Good.f x12 x2).bind fun t236 => (epicyclelaw06_FieldMakes.j2 k x1 x2 x9 x11 x12 (t236 != (decide (x2 < x9))))) else (epicyclelaw06_FieldMakes.j2 k x1 x2 x9 x11 x12 true))) else (epicyclelaw06_FieldMakes.j2 k x1 x2 x9 x11 x12 true))) else (epicyclelaw06_FieldMakes.j2 k x1 x2 x9 x11 x12 true)
noncomputable def epicyclelaw06_FieldMakes.j2 : Nat → Int → Int → Int → Int → List (Fld) → Bool → Option (Bool)
 | 0, _, _, _, _, _, _ => none
 | k + 1, x1, x2, x9, x11, x12, x94 => if x94 = true then (some false) else (if x11 = 0 then ((field_Field_Factors.f x12).bind fun t251 => (epicyclelaw06_FieldMakes.l1 k x9 x12 1 t251 (t251.length : Int) 0)) else ((field_Field_Root.f x12 x1).bind fun bt237 => (if (x12.length : Int) = 0 then ((field_Field_Factors.f x12).bind fun t239 => (if (t239.length : Int) = 0 then (if bt237.2 = 2 then ((field_Field_Divides.f x12 x1).bind fun t242 => (if t242 = true then (some false) else ((field_Field_Add.f x12 x2 x2).bind fun t243 => ((field_Field_Sub.f x12 x2 1).bind fun t244 => ((field_Field_Neg.f x12 x2).bind fun t245 => ((field_Field_Mul.f x12 x2 x2).bind fun t246 => ((field_Field_Pow.f x12 x2 0).bind fun t247 => ((field_Field_Inv.f x12 x2).bind fun t248 => ((field_Field_Lift.f x12 x2).bind fun t249 => ((field_Field_Times.f x12 x2 x2).bind fun t250 => (some ((IntKind.u64.wrap ((IntKind.u64.wrap ((IntKind.u64.wrap ((IntKind.u64.wrap ((IntKind.u64.wrap ((IntKind.u64.wrap ((IntKind.u64.wrap (t243 + t244)) + t245)) + t246)) + t247)) + t248)) + t249)) + t250)) == 0)))))))))))) else (some false)) else (some false))) else (some false))))
noncomputable def epicyclelaw06_FieldMakes.l1 : Nat → Int → List (Fld) → Int → List (S65) → Int → Int → Option (Bool)
 | 0, _, _, _, _, _, _ => none
 | k + 1, x9, x12, x16, x159, x160, x161 => if x161 < x160 then (if 0 ≤ x161 then (if x161 < (x159.length : Int) then (if x161 > 0 then ((field_Field_Factors.f x12).bind fun t256 => (if 0 ≤ (wrap64 (x161 - 1)) then (if (wrap64 (x161 - 1)) < (t256.length : Int) then (if ((rd_T65 t256 (wrap64 (x161 - 1))).f0) ≥ ((rd_T65 x159 x161).f0) then (epicyclelaw06_FieldMakes.j4 k x9 x12 x16 x159 x160 x161 true ((rd_T65 x159 x161).f0) ((rd_T65 x159 x161).f1)) else (if ((rd_T65 x159 x161).f1) < 1 then (epicyclelaw06_FieldMakes.j4 k x9 x12 x16 x159 x160 x161 true ((rd_T65 x159 x161).f0) ((rd_T65 x159 x161).f1)) else (epicyclelaw06_FieldMakes.j4 k x9 x12 x16 x159 x160 x161 (decide (((rd_T65 x159 x161).f1) > 62)) ((rd_T65 x159 x161).f0) ((rd_T65 x159 x161).f1)))) else (none)) else (none))) else (if ((rd_T65 x159 x161).f1) < 1 then (epicyclelaw06_FieldMakes.j4 k x9 x12 x16 x159 x160 x161 true ((rd_T65 x159 x161).f0) ((rd_T65 x159 x161).f1)) else (epicyclelaw06_FieldMakes.j4 k x9 x12 x16 x159 x160 x161 (decide (((rd_T65 x159 x161).f1) > 62)) ((rd_T65 x159 x161).f0) ((rd_T65 x159 x161).f1)))) else (none)) else (none)) else (some (x16 == (IntKind.u64.wrap (x9 - 1))))
noncomputable def epicyclelaw06_FieldMakes.j4 : Nat → Int → List (Fld) → Int → List (S65) → Int → Int → Bool → Int → Int → Option (Bool)
 | 0, _, _, _, _, _, _, _, _, _ => none
 | k + 1, x9, x12, x16, x159, x160, x161, x189, x256000, x256001 => if x189 = true then (some false) else (epicyclelaw06_FieldMakes.l2 k x9 x12 x16 0 x159 x160 x161 x256000 x256001)
noncomputable def epicyclelaw06_FieldMakes.l2 : Nat → Int → List (Fld) → Int → Int → List (S65) → Int → Int → Int → Int → Option (Bool)
 | 0, _, _, _, _, _, _, _, _, _ => none
 | k + 1, x9, x12, x16, x19, x159, x160, x161, x256000, x256001 => if x19 < x256001 then (epicyclelaw06_FieldMakes.l2 k x9 x12 (IntKind.u64.wrap (x16 * x256000)) (wrap64 (x19 + 1)) x159 x160 x161 x256000 x256001) else (epicyclelaw06_FieldMakes.l1 k x9 x12 x16 x159 x160 (wrap64 (x161 + 1)))
end
noncomputable def epicyclelaw06_FieldMakes.f (k : Nat) (a0_0 : Int) (a0_1 : Int) (a0_2 : Int) (l0_3 : List (S52)) (a1 : Int) (a2 : Int) : Option (Bool) := (epicyclelaw06_alive.f k).bind fun t213 => (if t213 = true then (if (l0_3.length : Int) > 40 then (some true) else (epicyclelaw06_FieldMakes.l0 k a1 a2 l0_3 (l0_3.length : Int) 0 a0_0 a0_1 a0_2 l0_3)) else (some false))
def epicyclelaw06_FieldMakes.T15 : Bool × List (List Nat × List Nat) := (true, [([], []), ([0], [0]), ([1], [1]), ([], []), ([3], [3]), ([2, 4, 2], [2, 4]), ([5], [5]), ([6], [6]), ([6], [6]), ([7, 5, 0, 1, 2, 3, 4, 5, 6, 7], [7]), ([8, 9, 0, 1, 2, 3, 4, 5, 6, 7, 8, 9], [8])])
def epicyclelaw06_FieldMakes.B15 : List Nat := [0, 1, 3, 0, 8, 31, 63, 127, 127, 255, 1023]
theorem epicyclelaw06_FieldMakes.tab15 : rtab .any (opsOf Try.f11 15) = epicyclelaw06_FieldMakes.T15 := by kernel_rfl
theorem epicyclelaw06_FieldMakes.bits15 : waitsOk epicyclelaw06_FieldMakes.T15.2 epicyclelaw06_FieldMakes.B15 = true := by kernel_rfl
def epicyclelaw06_FieldMakes.T29 : Bool × List (List Nat × List Nat) := (true, [([], []), ([0], [0]), ([1], [1]), ([2], [2]), ([3, 2, 2], [2, 3]), ([2], [2]), ([5, 2], [2, 5]), ([4, 6, 2], [2, 4, 6]), ([7, 2], [2, 7]), ([8, 2], [2, 8]), ([2], [2]), ([10, 2], [2, 10]), ([9, 11, 2], [2, 9, 11]), ([2, 12], [2, 12]), ([13, 4], [13]), ([14], [14]), ([15, 14], [14, 15]), ([16, 14], [14, 16]), ([14, 17], [14, 17]), ([18, 14], [18]), ([19], [19]), ([20, 19], [19, 20]), ([21, 19], [19, 21]), ([19, 22], [19, 22])])
def epicyclelaw06_FieldMakes.B29 : List Nat := [0, 1, 3, 7, 15, 7, 39, 127, 255, 511, 7, 1031, 4095, 8191, 16383, 32767, 65535, 131071, 262143, 524287, 1048575, 2097151, 4194303, 8388607]
theorem epicyclelaw06_FieldMakes.tab29 : rtab .any (opsOf Try.f11 29) = epicyclelaw06_FieldMakes.T29 := by kernel_rfl
theorem epicyclelaw06_FieldMakes.bits29 : waitsOk epicyclelaw06_FieldMakes.T29.2 epicyclelaw06_FieldMakes.B29 = true := by kernel_rfl
set_option maxHeartbeats 8000000 in
set_option maxRecDepth 100000 in
theorem epicyclelaw06_FieldMakes.calls (k : Nat) (a0_0 : Int) (a0_1 : Int) (a0_2 : Int) (A0_3 : Option Addr) (c0_3 : Nat) (l0_3 : List (S52)) (a1 : Int) (a2 : Int) (w : World) (hr0_3 : Kd.C k52 w A0_3 l0_3.length l0_3) (hc0_3 : l0_3.length ≤ c0_3) (h : epicyclelaw06_FieldMakes.f k a0_0 a0_1 a0_2 l0_3 a1 a2 = some true) :
  Calls Try.prog 11 #[.agg #[.int .i64 a0_0, .int .i64 a0_1, .int .u64 a0_2, .slice A0_3 l0_3.length c0_3], .int .i64 a1, .int .u64 a2] w fun e w' => e = .returned (.bool true) ∧ Below w.heap.size w w' := by
 have hu25 := Try.underlying25
 have hu52 := Try.underlying52
 have hu65 := Try.underlying65
 have HR0_3 := Aside0.mk hr0_3
 have HC0_3 := Aside0.mk hc0_3
 clear hr0_3 hc0_3
 have HB := Aside0.mk (Below.refl w.heap.size w)
 have H := h; unfold epicyclelaw06_FieldMakes.f at H
 clear h
 replace H := Option.bind_eq_some_iff.mp H
 obtain ⟨t213, A40, H⟩ := H
 (try dsimp only at H)
 have A4 := Aside0.mk A40
 clear A40
 by_cases c5 : t213 = true
 ·subst c5
  have H1 := H; rw [if_pos rfl] at H1
  clear H
  have H := H1
  clear H1
  by_cases c6 : (l0_3.length : Int) > 40
  ·rw [if_pos c6] at H
   have c6b0 := decide_eq_true c6
   have c6b1 : decide (40 < l0_3.length) = true := decide_eq_true (by omega)
   clear c6
   clear H
   go_enter Try.func11, Try.ntmps11
   go_wp2_with (first | ((with_reducible refine gate_dst (N := 3) rfl ?_); (try (refine gate_guard (by rfl) ?_; dsimp only)); refine box_event ?hg (N := 3) ?hd (cs := #[.int .i64 a0_0, .int .i64 a0_1, .int .u64 a0_2, .slice A0_3 l0_3.length c0_3]) (t := 25) ?hr ?_; (case hd => rfl); (case hg => rfl); (case hr => first | (go_simp; done) | (go_simp; rfl)); intro gb212 hg w7 hbox hb; have n0_ := Aside0.mk (below_step bel_ hb); have n1_ := Aside0.mk (hbox); have n2_ := Aside0.mk ((by rw [hg]; exact (below_size bel_) : w.heap.size ≤ gb212)); have n3_ := Aside0.mk ((by rw [hg]; exact (below_size bel_) : w.heap.size ≤ gb212)); clear HB; have HB := n0_; have BK212 := n1_; have GW212 := n2_; have GE212 := n3_; clear n0_ n1_ n2_ n3_; clear hb hbox hg) | ((with_reducible refine gate_callee (f := 12) rfl ?_); refine goesL_ (some 20) rfl rfl Try.func12 (by kernel_rfl) rfl #[] rfl (by (try simp only [List.map_toArray, List.map_cons, List.map_nil]); first | done | rfl | (simp only [List.length_drop, List.length_take]; rfl)) ?_; (with_reducible refine (epicyclelaw06_alive.calls k  true _ A4.out).mono ?_); rintro e w8 ⟨rfl, hb⟩; refine ⟨_, rfl, ?_⟩; have n0_ := Aside0.mk (blk_below (g := gb212) (o := .cells #[.int .i64 a0_0, .int .i64 a0_1, .int .u64 a0_2, .slice A0_3 l0_3.length c0_3] 25 (0, 0)) (by (with_reducible repeat (first | refine blk_drewN ?_ _ | refine blk_drew ?_ | refine blk_alloc ?_ _)); exact BK212.out) hb); have n1_ := Aside0.mk (below_step bel_ hb); clear BK212; clear HB; have BK212 := n0_; have HB := n1_; clear n0_ n1_; (try clear hb); (try clear hb2); (try clear hk); (try clear hi); have hcz9_0 : w8.cell? ⟨gb212, 0, none⟩ = some (.int .i64 a0_0) := (blk_cell BK212.out 0).trans rfl; have hcz9_1 : w8.cell? ⟨gb212, 1, none⟩ = some (.int .i64 a0_1) := (blk_cell BK212.out 1).trans rfl; have hcz9_2 : w8.cell? ⟨gb212, 2, none⟩ = some (.int .u64 a0_2) := (blk_cell BK212.out 2).trans rfl; have hcz9_3 : w8.cell? ⟨gb212, 3, none⟩ = some (.slice A0_3 l0_3.length c0_3) := (blk_cell BK212.out 3).trans rfl; have hfz9_0 := blk_frozen BK212.out 0; have hfz9_1 := blk_frozen BK212.out 1; have hfz9_2 := blk_frozen BK212.out 2; have hfz9_3 := blk_frozen BK212.out 3))
   go_ret
   exact ⟨by first | rfl | (simp [errW_none, errW_some] <;> rfl) | (simp [*, errW_none, errW_some] <;> rfl), bel_⟩
  ·rw [if_neg c6] at H
   have c6b0 := decide_eq_false c6
   have c6b1 : decide (40 < l0_3.length) = false := decide_eq_false (by omega)
   clear c6
   have H' := Aside0.mk H
   clear H
   go_enter Try.func11, Try.ntmps11
   go_wp2_with (first | ((with_reducible refine gate_dst (N := 3) rfl ?_); (try (refine gate_guard (by rfl) ?_; dsimp only)); refine box_event ?hg (N := 3) ?hd (cs := #[.int .i64 a0_0, .int .i64 a0_1, .int .u64 a0_2, .slice A0_3 l0_3.length c0_3]) (t := 25) ?hr ?_; (case hd => rfl); (case hg => rfl); (case hr => first | (go_simp; done) | (go_simp; rfl)); intro gb212 hg w10 hbox hb; have n0_ := Aside0.mk (below_step bel_ hb); have n1_ := Aside0.mk (hbox); have n2_ := Aside0.mk ((by rw [hg]; exact (below_size bel_) : w.heap.size ≤ gb212)); have n3_ := Aside0.mk ((by rw [hg]; exact (below_size bel_) : w.heap.size ≤ gb212)); clear HB; have HB := n0_; have BK212 := n1_; have GW212 := n2_; have GE212 := n3_; clear n0_ n1_ n2_ n3_; clear hb hbox hg) | ((with_reducible refine gate_callee (f := 12) rfl ?_); refine goesL_ (some 20) rfl rfl Try.func12 (by kernel_rfl) rfl #[] rfl (by (try simp only [List.map_toArray, List.map_cons, List.map_nil]); first | done | rfl | (simp only [List.length_drop, List.length_take]; rfl)) ?_; (with_reducible refine (epicyclelaw06_alive.calls k  true _ A4.out).mono ?_); rintro e w11 ⟨rfl, hb⟩; refine ⟨_, rfl, ?_⟩; have n0_ := Aside0.mk (blk_below (g := gb212) (o := .cells #[.int .i64 a0_0, .int .i64 a0_1, .int .u64 a0_2, .slice A0_3 l0_3.length c0_3] 25 (0, 0)) (by (with_reducible repeat (first | refine blk_drewN ?_ _ | refine blk_drew ?_ | refine blk_alloc ?_ _)); exact BK212.out) hb); have n1_ := Aside0.mk (below_step bel_ hb); clear BK212; clear HB; have BK212 := n0_; have HB := n1_; clear n0_ n1_; (try clear hb); (try clear hb2); (try clear hk); (try clear hi); have hcz12_0 : w11.cell? ⟨gb212, 0, none⟩ = some (.int .i64 a0_0) := (blk_cell BK212.out 0).trans rfl; have hcz12_1 : w11.cell? ⟨gb212, 1, none⟩ = some (.int .i64 a0_1) := (blk_cell BK212.out 1).trans rfl; have hcz12_2 : w11.cell? ⟨gb212, 2, none⟩ = some (.int .u64 a0_2) := (blk_cell BK212.out 2).trans rfl; have hcz12_3 : w11.cell? ⟨gb212, 3, none⟩ = some (.slice A0_3 l0_3.length c0_3) := (blk_cell BK212.out 3).trans rfl; have hfz12_0 := blk_frozen BK212.out 0; have hfz12_1 := blk_frozen BK212.out 1; have hfz12_2 := blk_frozen BK212.out 2; have hfz12_3 := blk_frozen BK212.out 3))
   go_loopg [29] k (fun kq v29 w' => ∃ (x29_1 : Int), v29 = .int .i64 x29_1 ∧ Aside0 (epicyclelaw06_FieldMakes.l0 kq a1 a2 l0_3 (l0_3.length : Int) x29_1 a0_0 a0_1 a0_2 l0_3 = some true) ∧ Aside0 (kq ≤ k) ∧ Aside0 (w'.heap[gb212]? = some (.cells #[.int .i64 a0_0, .int .i64 a0_1, .int .u64 a0_2, (.slice A0_3 l0_3.length c0_3)] 25 (0, 0))) ∧ Aside0 (Below w.heap.size w w'))
   case atStart => exact ⟨(0), (by first | rfl | (simp; done) | (simp [*]; done)), H', ⟨Nat.le_refl _⟩, ⟨by (with_reducible repeat (first | refine blk_drewN ?_ _ | refine blk_drew ?_ | refine blk_alloc ?_ _)); exact BK212.out⟩, ⟨bel_⟩⟩
   case round =>
    clear H'
    try clear c1
    try clear p2
    try clear c5
    try clear c6
    try clear c6b0
    try clear c6b1
    try clear c11
    try clear c12
    try clear hcz12_0
    try clear hcz12_1
    try clear hcz12_2
    try clear hcz12_3
    try clear hcz9_0
    try clear hcz9_1
    try clear hcz9_2
    try clear hcz9_3
    try clear hfz12_0
    try clear hfz12_1
    try clear hfz12_2
    try clear hfz12_3
    try clear hfz9_0
    try clear hfz9_1
    try clear hfz9_2
    try clear hfz9_3
    obtain ⟨x29_1, rfl, HA, HK1, BK212, HB⟩ := hrel
    cases gk with
    | zero => exact absurd HA.out (by simp [epicyclelaw06_FieldMakes.l0])
    | succ k1 =>
     have H := HA.out
     clear HA
     simp only [epicyclelaw06_FieldMakes.l0] at H
     by_cases c13 : x29_1 < (l0_3.length : Int)
     ·rw [if_pos c13] at H
      have c13b0 := decide_eq_true c13
      clear c13
      by_cases c14 : 0 ≤ x29_1
      ·rw [if_pos c14] at H
       have c14b0 := decide_eq_true c14
       clear c14
       by_cases c15 : x29_1 < (l0_3.length : Int)
       ·rw [if_pos c15] at H
        have c15b0 := decide_eq_true c15
        clear c15
        by_cases c16 : (((rd_T52 l0_3 x29_1).f2).length : Int) > 20
        ·rw [if_pos c16] at H
         have c16b0 := decide_eq_true c16
         have c16b1 : decide (20 < ((rd_T52 l0_3 x29_1).f2).length) = true := decide_eq_true (by omega)
         clear c16
         clear H
         have p214 : 0 ≤ (x29_1 : Int) := of_decide_eq_true (by assumption)
         have q214 : x29_1 < (l0_3.length : Int) := of_decide_eq_true (by assumption)
         obtain ⟨ad214, A214_2, c214_2, e214, hx214_0, hx214_1, hx214_2, hl214_2, hi214_2⟩ := at_T52 HR0_3.out x29_1 p214 q214
         cases e214
         replace hx214_0 := (HB.out.cell (World.block_lt_of_cell? w _ hx214_0)).trans hx214_0
         replace hx214_1 := (HB.out.cell (World.block_lt_of_cell? w _ hx214_1)).trans hx214_1
         replace hx214_2 := (HB.out.cell (World.block_lt_of_cell? w _ hx214_2)).trans hx214_2
         have HR214_2 := Aside0.mk hi214_2
         have HC214_2 := Aside0.mk hl214_2
         clear hi214_2 hl214_2
         replace p214 := eq_true p214
         replace q214 := eq_true q214
         go_wp2_with (first | ((with_reducible refine gate_dst (N := 8) rfl ?_); (try (refine gate_guard (by rfl) ?_; dsimp only)); refine box_event ?hg (N := 8) ?hd (cs := #[.int .u64 0, .int .u64 0, .slice none 0 0]) (t := 52) ?hr ?_; (case hd => rfl); (case hg => rfl); (case hr => first | (go_simp; done) | (go_simp; rfl)); intro gb215 hg w17 hbox hb; have n0_ := Aside0.mk (blk_below (g := gb212) (o := .cells #[.int .i64 a0_0, .int .i64 a0_1, .int .u64 a0_2, .slice (some ad214) l0_3.length c0_3] 25 (0, 0)) (by (with_reducible repeat (first | refine blk_drewN ?_ _ | refine blk_drew ?_ | refine blk_alloc ?_ _)); exact BK212.out) hb); have n1_ := Aside0.mk (below_step bel_ hb); have n2_ := Aside0.mk (hbox); have n3_ := Aside0.mk ((by rw [hg]; exact (below_size bel_) : w.heap.size ≤ gb215)); have n4_ := Aside0.mk ((by rw [hg]; exact (below_size bel_) : w.heap.size ≤ gb215)); have n5_ := Aside0.mk ((by rw [hg]; exact Nat.ne_of_lt (blk_lt (g := gb212) (o := .cells #[.int .i64 a0_0, .int .i64 a0_1, .int .u64 a0_2, .slice (some ad214) l0_3.length c0_3] 25 (0, 0)) (by (with_reducible repeat (first | refine blk_drewN ?_ _ | refine blk_drew ?_ | refine blk_alloc ?_ _)); exact BK212.out)) : gb212 ≠ gb215)); have n6_ := Aside0.mk ((by rw [hg]; exact Nat.ne_of_gt (blk_lt (g := gb212) (o := .cells #[.int .i64 a0_0, .int .i64 a0_1, .int .u64 a0_2, .slice (some ad214) l0_3.length c0_3] 25 (0, 0)) (by (with_reducible repeat (first | refine blk_drewN ?_ _ | refine blk_drew ?_ | refine blk_alloc ?_ _)); exact BK212.out)) : gb215 ≠ gb212)); clear BK212; clear HB; have BK212 := n0_; have HB := n1_; have BK215 := n2_; have GW215 := n3_; have GE215 := n4_; have NB212_215 := n5_; have NB215_212 := n6_; clear n0_ n1_ n2_ n3_ n4_ n5_ n6_; clear hb hbox hg; have hnb18 := NB215_212.out; have hnc18 := NB212_215.out; have hcz19_0 : w17.cell? ⟨gb215, 0, none⟩ = some (.int .u64 0) := (blk_cell BK215.out 0).trans rfl; have hcz19_1 : w17.cell? ⟨gb215, 1, none⟩ = some (.int .u64 0) := (blk_cell BK215.out 1).trans rfl; have hcz19_2 : w17.cell? ⟨gb215, 2, none⟩ = some (.slice none 0 0) := (blk_cell BK215.out 2).trans rfl; have hfz19_0 := blk_frozen BK215.out 0; have hfz19_1 := blk_frozen BK215.out 1; have hfz19_2 := blk_frozen BK215.out 2))
         go_ret
         exact ⟨by first | rfl | (simp [errW_none, errW_some] <;> rfl) | (simp [*, errW_none, errW_some] <;> rfl), bel_⟩
        ·rw [if_neg c16] at H
         have c16b0 := decide_eq_false c16
         have c16b1 : decide (20 < ((rd_T52 l0_3 x29_1).f2).length) = false := decide_eq_false (by omega)
         clear c16
         have H' := Aside0.mk H
         clear H
         have p214 : 0 ≤ (x29_1 : Int) := of_decide_eq_true (by assumption)
         have q214 : x29_1 < (l0_3.length : Int) := of_decide_eq_true (by assumption)
         obtain ⟨ad214, A214_2, c214_2, e214, hx214_0, hx214_1, hx214_2, hl214_2, hi214_2⟩ := at_T52 HR0_3.out x29_1 p214 q214
         cases e214
         replace hx214_0 := (HB.out.cell (World.block_lt_of_cell? w _ hx214_0)).trans hx214_0
         replace hx214_1 := (HB.out.cell (World.block_lt_of_cell? w _ hx214_1)).trans hx214_1
         replace hx214_2 := (HB.out.cell (World.block_lt_of_cell? w _ hx214_2)).trans hx214_2
         have HR214_2 := Aside0.mk hi214_2
         have HC214_2 := Aside0.mk hl214_2
         clear hi214_2 hl214_2
         replace p214 := eq_true p214
         replace q214 := eq_true q214
         go_wp2_with (first | ((with_reducible refine gate_dst (N := 8) rfl ?_); (try (refine gate_guard (by rfl) ?_; dsimp only)); refine box_event ?hg (N := 8) ?hd (cs := #[.int .u64 0, .int .u64 0, .slice none 0 0]) (t := 52) ?hr ?_; (case hd => rfl); (case hg => rfl); (case hr => first | (go_simp; done) | (go_simp; rfl)); intro gb215 hg w20 hbox hb; have n0_ := Aside0.mk (blk_below (g := gb212) (o := .cells #[.int .i64 a0_0, .int .i64 a0_1, .int .u64 a0_2, .slice (some ad214) l0_3.length c0_3] 25 (0, 0)) (by (with_reducible repeat (first | refine blk_drewN ?_ _ | refine blk_drew ?_ | refine blk_alloc ?_ _)); exact BK212.out) hb); have n1_ := Aside0.mk (below_step bel_ hb); have n2_ := Aside0.mk (hbox); have n3_ := Aside0.mk ((by rw [hg]; exact (below_size bel_) : w.heap.size ≤ gb215)); have n4_ := Aside0.mk ((by rw [hg]; exact (below_size bel_) : w.heap.size ≤ gb215)); have n5_ := Aside0.mk ((by rw [hg]; exact Nat.ne_of_lt (blk_lt (g := gb212) (o := .cells #[.int .i64 a0_0, .int .i64 a0_1, .int .u64 a0_2, .slice (some ad214) l0_3.length c0_3] 25 (0, 0)) (by (with_reducible repeat (first | refine blk_drewN ?_ _ | refine blk_drew ?_ | refine blk_alloc ?_ _)); exact BK212.out)) : gb212 ≠ gb215)); have n6_ := Aside0.mk ((by rw [hg]; exact Nat.ne_of_gt (blk_lt (g := gb212) (o := .cells #[.int .i64 a0_0, .int .i64 a0_1, .int .u64 a0_2, .slice (some ad214) l0_3.length c0_3] 25 (0, 0)) (by (with_reducible repeat (first | refine blk_drewN ?_ _ | refine blk_drew ?_ | refine blk_alloc ?_ _)); exact BK212.out)) : gb215 ≠ gb212)); clear BK212; clear HB; have BK212 := n0_; have HB := n1_; have BK215 := n2_; have GW215 := n3_; have GE215 := n4_; have NB212_215 := n5_; have NB215_212 := n6_; clear n0_ n1_ n2_ n3_ n4_ n5_ n6_; clear hb hbox hg; have hnb21 := NB215_212.out; have hnc21 := NB212_215.out; have hcz22_0 : w20.cell? ⟨gb215, 0, none⟩ = some (.int .u64 0) := (blk_cell BK215.out 0).trans rfl; have hcz22_1 : w20.cell? ⟨gb215, 1, none⟩ = some (.int .u64 0) := (blk_cell BK215.out 1).trans rfl; have hcz22_2 : w20.cell? ⟨gb215, 2, none⟩ = some (.slice none 0 0) := (blk_cell BK215.out 2).trans rfl; have hfz22_0 := blk_frozen BK215.out 0; have hfz22_1 := blk_frozen BK215.out 1; have hfz22_2 := blk_frozen BK215.out 2))
         go_roundg k1
         case measure => have := HK1.out; omega
         case rel => exact ⟨(wrap64 (x29_1 + 1)), (by first | rfl | (simp; done) | (simp [*]; done)), H', ⟨by have := HK1.out; omega⟩, ⟨by (with_reducible repeat (first | refine blk_drewN ?_ _ | refine blk_drew ?_ | refine blk_alloc ?_ _)); refine blk_far ?_ NB212_215.out _; (with_reducible repeat (first | refine blk_drewN ?_ _ | refine blk_drew ?_ | refine blk_alloc ?_ _)); refine blk_far ?_ NB212_215.out _; (with_reducible repeat (first | refine blk_drewN ?_ _ | refine blk_drew ?_ | refine blk_alloc ?_ _)); refine blk_far ?_ NB212_215.out _; (with_reducible repeat (first | refine blk_drewN ?_ _ | refine blk_drew ?_ | refine blk_alloc ?_ _)); exact BK212.out⟩, ⟨bel_⟩⟩
       ·rw [if_neg c15] at H
        exact absurd H (by simp)
      ·rw [if_neg c14] at H
       exact absurd H (by simp)
     ·rw [if_neg c13] at H
      have c13b0 := decide_eq_false c13
      clear c13
      replace H := Option.bind_eq_some_iff.mp H
      obtain ⟨⟨t216, t217, t218⟩, A230, H⟩ := H
      (try dsimp only at H)
      have A23 := Aside0.mk A230
      clear A230
      have HC24 := Aside0.mk H
      clear H
      have hcz25_0 : wr.cell? ⟨gb212, 0, none⟩ = some (.int .i64 a0_0) := (blk_cell BK212.out 0).trans rfl
      have hcz25_1 : wr.cell? ⟨gb212, 1, none⟩ = some (.int .i64 a0_1) := (blk_cell BK212.out 1).trans rfl
      have hcz25_2 : wr.cell? ⟨gb212, 2, none⟩ = some (.int .u64 a0_2) := (blk_cell BK212.out 2).trans rfl
      have hcz25_3 : wr.cell? ⟨gb212, 3, none⟩ = some (.slice A0_3 l0_3.length c0_3) := (blk_cell BK212.out 3).trans rfl
      have hfz25_0 := blk_frozen BK212.out 0
      have hfz25_1 := blk_frozen BK212.out 1
      have hfz25_2 := blk_frozen BK212.out 2
      have hfz25_3 := blk_frozen BK212.out 3
      go_upto_block 2 with (first | ((with_reducible refine gate_callee (f := 28) rfl ?_); refine goesL_ (some 40) rfl rfl Try.func28 (by kernel_rfl) rfl #[.agg #[.int .i64 a0_0, .int .i64 a0_1, .int .u64 a0_2, .slice A0_3 l0_3.length c0_3]] rfl (by (try simp only [List.map_toArray, List.map_cons, List.map_nil]); first | done | rfl | (simp only [List.length_drop, List.length_take]; rfl)) ?_; (with_reducible refine (epicycleref06_Of.calls k1 a0_0 a0_1 a0_2 _ _ l0_3 t216 t217 t218 _ ?side1 ?side2 A23.out).mono ?_); (case side1 => repeat (first | exact (Kd.C_below HR0_3.out HB.out) | (with_reducible refine Kd.C_alloc ?_ _) | (with_reducible refine Kd.C_drewN ?_ _) | (with_reducible refine Kd.C_drew ?_))); (case side2 => exact HC0_3.out); rintro e w26 ⟨rfl, hb⟩; refine ⟨_, rfl, ?_⟩; have n0_ := Aside0.mk (blk_below (g := gb212) (o := .cells #[.int .i64 a0_0, .int .i64 a0_1, .int .u64 a0_2, .slice A0_3 l0_3.length c0_3] 25 (0, 0)) (by (with_reducible repeat (first | refine blk_drewN ?_ _ | refine blk_drew ?_ | refine blk_alloc ?_ _)); exact BK212.out) hb); have n1_ := Aside0.mk (below_step bel_ hb); clear BK212; clear HB; have BK212 := n0_; have HB := n1_; clear n0_ n1_; (try clear hb); (try clear hb2); (try clear hk); (try clear hi); have hcz27_0 : w26.cell? ⟨gb212, 0, none⟩ = some (.int .i64 a0_0) := (blk_cell BK212.out 0).trans rfl; have hcz27_1 : w26.cell? ⟨gb212, 1, none⟩ = some (.int .i64 a0_1) := (blk_cell BK212.out 1).trans rfl; have hcz27_2 : w26.cell? ⟨gb212, 2, none⟩ = some (.int .u64 a0_2) := (blk_cell BK212.out 2).trans rfl; have hcz27_3 : w26.cell? ⟨gb212, 3, none⟩ = some (.slice A0_3 l0_3.length c0_3) := (blk_cell BK212.out 3).trans rfl; have hfz27_0 := blk_frozen BK212.out 0; have hfz27_1 := blk_frozen BK212.out 1; have hfz27_2 := blk_frozen BK212.out 2; have hfz27_3 := blk_frozen BK212.out 3))
      (try simp only [Act.put, List.setIfInBounds_toArray, List.set_cons_zero, List.set_cons_succ])
      go_cut [12, 13] (fun v12 v13 wc => ∃ (kq : Nat) (x12_23 : List (Fld)) (x13_23 : Int) (u12 : Value), v13 = .int .i64 x13_23 ∧ v12 = toPtr u12 ∧ Aside0 (epicyclelaw06_FieldMakes.j1 kq a1 a2 t216 t217 t218 x12_23 x13_23 = some true) ∧ Aside0 (kq ≤ k1) ∧ Aside0 (Kd.R kFld 70 wc w.heap.size (fun _ => True) u12 x12_23) ∧ Aside0 (wc.heap[gb212]? = some (.cells #[.int .i64 a0_0, .int .i64 a0_1, .int .u64 a0_2, (.slice A0_3 l0_3.length c0_3)] 25 (0, 0))) ∧ Aside0 (Below w.heap.size w wc))
      case first =>
       have H := HC24.out
       clear HC24
       by_cases c28 : a0_0 = 0
       ·rw [if_pos c28] at H
        have c28b0 := beq_iff_eq.mpr c28
        have c28b1 := bne_eq_false_iff_eq.mpr c28
        clear c28
        (first | rw [c28b0] | (simp only [i64_w, i32_w]; rw [c28b0]) | skip)
        replace H := Option.bind_eq_some_iff.mp H
        obtain ⟨⟨t219, t220⟩, A290, H⟩ := H
        (try dsimp only at H)
        have A29 := Aside0.mk A290
        clear A290
        have H' := Aside0.mk H
        clear H
        have hcz30_0 : w26.cell? ⟨gb212, 0, none⟩ = some (.int .i64 a0_0) := (blk_cell BK212.out 0).trans rfl
        have hcz30_1 : w26.cell? ⟨gb212, 1, none⟩ = some (.int .i64 a0_1) := (blk_cell BK212.out 1).trans rfl
        have hcz30_2 : w26.cell? ⟨gb212, 2, none⟩ = some (.int .u64 a0_2) := (blk_cell BK212.out 2).trans rfl
        have hcz30_3 : w26.cell? ⟨gb212, 3, none⟩ = some (.slice A0_3 l0_3.length c0_3) := (blk_cell BK212.out 3).trans rfl
        have hfz30_0 := blk_frozen BK212.out 0
        have hfz30_1 := blk_frozen BK212.out 1
        have hfz30_2 := blk_frozen BK212.out 2
        have hfz30_3 := blk_frozen BK212.out 3
        go_wp2_with (first | ((with_reducible refine gate_callee (f := 29) rfl ?_); refine goesL_ (some 60) rfl rfl Try.func29 (by kernel_rfl) rfl #[.int .u64 a0_2] rfl (by (try simp only [List.map_toArray, List.map_cons, List.map_nil]); first | done | rfl | (simp only [List.length_drop, List.length_take]; rfl)) ?_; (with_reducible refine (field_Small.calls k1 a0_2 t219 t220 _ A29.out).mono ?_); rintro e w31 ⟨v221, rfl, ho0, hb⟩; refine ⟨_, rfl, ?_⟩; have n0_ := Aside0.mk (Kd.R_lower ho0 (below_size bel_)); have n1_ := Aside0.mk (blk_below (g := gb212) (o := .cells #[.int .i64 a0_0, .int .i64 a0_1, .int .u64 a0_2, .slice A0_3 l0_3.length c0_3] 25 (0, 0)) (by (with_reducible repeat (first | refine blk_drewN ?_ _ | refine blk_drew ?_ | refine blk_alloc ?_ _)); exact BK212.out) hb); have n2_ := Aside0.mk (below_step bel_ hb); clear BK212; clear HB; have HO222 := n0_; have BK212 := n1_; have HB := n2_; clear n0_ n1_ n2_; (try clear hb); (try clear hb2); (try clear hk); (try clear hi); (try clear ho0)))
        go_meet
        case rel => exact ⟨_, (t219), (t220), (v221), (by first | rfl | (simp; done) | (simp [*]; done)), rfl, H', ⟨by have := HK1.out; first | omega | exact Nat.le_refl _⟩, ⟨by (with_reducible repeat (first | apply Kd.R_alloc | apply Kd.R_drewN | apply Kd.R_drew)); exact HO222.out⟩, ⟨by (with_reducible repeat (first | refine blk_drewN ?_ _ | refine blk_drew ?_ | refine blk_alloc ?_ _)); exact BK212.out⟩, ⟨bel_⟩⟩
       ·rw [if_neg c28] at H
        have c28b0 := beq_eq_false_iff_ne.mpr c28
        have c28b1 := bne_iff_ne.mpr c28
        (first | rw [c28b0] | (simp only [i64_w, i32_w]; rw [c28b0]) | skip)
        by_cases c32 : a0_0 = 1
        ·rw [if_pos c32] at H
         have c32b0 := beq_iff_eq.mpr c32
         have c32b1 := bne_eq_false_iff_eq.mpr c32
         clear c32
         replace H := Option.bind_eq_some_iff.mp H
         obtain ⟨⟨t223, t224⟩, A330, H⟩ := H
         (try dsimp only at H)
         have A33 := Aside0.mk A330
         clear A330
         have H' := Aside0.mk H
         clear H
         have hcz34_0 : w26.cell? ⟨gb212, 0, none⟩ = some (.int .i64 a0_0) := (blk_cell BK212.out 0).trans rfl
         have hcz34_1 : w26.cell? ⟨gb212, 1, none⟩ = some (.int .i64 a0_1) := (blk_cell BK212.out 1).trans rfl
         have hcz34_2 : w26.cell? ⟨gb212, 2, none⟩ = some (.int .u64 a0_2) := (blk_cell BK212.out 2).trans rfl
         have hcz34_3 : w26.cell? ⟨gb212, 3, none⟩ = some (.slice A0_3 l0_3.length c0_3) := (blk_cell BK212.out 3).trans rfl
         have hfz34_0 := blk_frozen BK212.out 0
         have hfz34_1 := blk_frozen BK212.out 1
         have hfz34_2 := blk_frozen BK212.out 2
         have hfz34_3 := blk_frozen BK212.out 3
         go_wp2_with (first | ((with_reducible refine gate_callee (f := 30) rfl ?_); refine goesL_ (some 68) rfl rfl Try.func30 (by kernel_rfl) rfl #[.int .i64 a0_1] rfl (by (try simp only [List.map_toArray, List.map_cons, List.map_nil]); first | done | rfl | (simp only [List.length_drop, List.length_take]; rfl)) ?_; (with_reducible refine (field_Known.calls k1 a0_1 t223 t224 _ A33.out).mono ?_); rintro e w35 ⟨v225, rfl, ho0, hb⟩; refine ⟨_, rfl, ?_⟩; have n0_ := Aside0.mk (Kd.R_lower ho0 (below_size bel_)); have n1_ := Aside0.mk (blk_below (g := gb212) (o := .cells #[.int .i64 a0_0, .int .i64 a0_1, .int .u64 a0_2, .slice A0_3 l0_3.length c0_3] 25 (0, 0)) (by (with_reducible repeat (first | refine blk_drewN ?_ _ | refine blk_drew ?_ | refine blk_alloc ?_ _)); exact BK212.out) hb); have n2_ := Aside0.mk (below_step bel_ hb); clear BK212; clear HB; have HO226 := n0_; have BK212 := n1_; have HB := n2_; clear n0_ n1_ n2_; (try clear hb); (try clear hb2); (try clear hk); (try clear hi); (try clear ho0)))
         go_meet
         case rel => exact ⟨_, (t223), (t224), (v225), (by first | rfl | (simp; done) | (simp [*]; done)), rfl, H', ⟨by have := HK1.out; first | omega | exact Nat.le_refl _⟩, ⟨by (with_reducible repeat (first | apply Kd.R_alloc | apply Kd.R_drewN | apply Kd.R_drew)); exact HO226.out⟩, ⟨by (with_reducible repeat (first | refine blk_drewN ?_ _ | refine blk_drew ?_ | refine blk_alloc ?_ _)); exact BK212.out⟩, ⟨bel_⟩⟩
        ·rw [if_neg c32] at H
         have c32b0 := beq_eq_false_iff_ne.mpr c32
         have c32b1 := bne_iff_ne.mpr c32
         replace H := Option.bind_eq_some_iff.mp H
         obtain ⟨t227, A360, H⟩ := H
         (try dsimp only at H)
         have A36 := Aside0.mk A360
         clear A360
         replace H := Option.bind_eq_some_iff.mp H
         obtain ⟨⟨t230, t231⟩, A370, H⟩ := H
         (try dsimp only at H)
         have A37 := Aside0.mk A370
         clear A370
         have H' := Aside0.mk H
         clear H
         try go_wp2
         have n0_ := Aside0.mk (blk_drew BK212.out)
         have n1_ := Aside0.mk (below_drew1 HB.out)
         clear BK212
         clear HB
         have BK212 := n0_
         have HB := n1_
         clear n0_ n1_
         refine start_ (n := 11) (S := fun w' => w'.cell? ⟨gb212, 0, none⟩ = some (.int .i64 a0_0) ∧ w'.cell? ⟨gb212, 1, none⟩ = some (.int .i64 a0_1) ∧ w'.cell? ⟨gb212, 2, none⟩ = some (.int .u64 a0_2) ∧ w'.cell? ⟨gb212, 3, none⟩ = some (.slice A0_3 l0_3.length c0_3)) (ds := []) #[false, false, false, false, false, false, false, false, false, false, false] (by kernel_rfl) rfl rfl ⟨(blk_cell BK212.out 0).trans rfl, (blk_cell BK212.out 1).trans rfl, (blk_cell BK212.out 2).trans rfl, (blk_cell BK212.out 3).trans rfl⟩ (fun hHeld => ?_); refine with_tabW epicyclelaw06_FieldMakes.tab15 epicyclelaw06_FieldMakes.bits15 (fun HT_ HW_ => ?_)
         generalize w26.drew = w38 at BK212 HB hHeld ⊢
         refine pure_ (i := 0) (N := some 47) (v := ?_) (a' := ?_) #[true, false, false, false, false, false, false, false, false, false, false] rfl rfl (any_of HT_.out (by kernel_rfl)) (fun _ _ _ h => h) (Or.inl ⟨by rfl, ?_⟩) ?_ ?_
         rotate_left
         ·intro w'
          go_simp
          with_reducible rfl
         rotate_left
         ·simp only [Act.put, List.setIfInBounds_toArray, List.set_cons_zero, List.set_cons_succ, i64_w, i32_w]
          rfl
         refine pure_ (i := 3) (N := some 50) (v := ?_) (a' := ?_) #[true, false, false, true, false, false, false, false, false, false, false] rfl rfl (any_of HT_.out (by kernel_rfl)) (fun _ _ _ h => h) (Or.inl ⟨by rfl, ?_⟩) ?_ ?_
         rotate_left
         ·intro w'
          go_simp
          with_reducible rfl
         rotate_left
         ·simp only [Act.put, List.setIfInBounds_toArray, List.set_cons_zero, List.set_cons_succ, i64_w, i32_w]
          rfl
         refine take_ (i := 1) (N := some 48) (v := ?_) (a' := ?_) #[true, true, false, true, false, false, false, false, false, false, false] rfl rfl (take_ofW HT_.out HW_.out (by kernel_rfl)) (fun _ _ _ h => h) (Or.inl ⟨by rfl, ?_⟩) hHeld ?_ ?_
         rotate_left
         ·rintro w' ⟨s0, s1, s2, s3⟩
          go_simp
          with_reducible rfl
         rotate_left
         ·simp only [Act.put, List.setIfInBounds_toArray, List.set_cons_zero, List.set_cons_succ, i64_w, i32_w]
          rfl
         refine take_ (i := 4) (N := some 51) (v := ?_) (a' := ?_) #[true, true, false, true, true, false, false, false, false, false, false] rfl rfl (take_ofW HT_.out HW_.out (by kernel_rfl)) (fun _ _ _ h => h) (Or.inl ⟨by rfl, ?_⟩) hHeld ?_ ?_
         rotate_left
         ·rintro w' ⟨s0, s1, s2, s3⟩
          go_simp
          with_reducible rfl
         rotate_left
         ·simp only [Act.put, List.setIfInBounds_toArray, List.set_cons_zero, List.set_cons_succ, i64_w, i32_w]
          rfl
         refine one_ (i := 2) (N := some 49) #[true, true, true, true, true, false, false, false, false, false, false] rfl rfl (one_of HT_.out (by kernel_rfl)) (by decide) (fun K hK => ?_)
         refine goes_ Try.func32 (by kernel_rfl) rfl #[.slice A0_3 l0_3.length c0_3] (by rfl) rfl rfl (by (try simp only [List.map_toArray, List.map_cons, List.map_nil]); first | done | rfl | (simp only [List.length_drop, List.length_take]; rfl)) ?_
         with_reducible refine (epicyclelaw06_rows.calls k1 _ _ l0_3 t227 _ ?side1 ?side2 A36.out).mono ?_
         (case side1 => repeat (first | exact (Kd.C_below HR0_3.out HB.out) | (with_reducible refine Kd.C_alloc ?_ _) | (with_reducible refine Kd.C_drewN ?_ _) | (with_reducible refine Kd.C_drew ?_)))
         (case side2 => exact HC0_3.out)
         rintro e w39 ⟨v228, rfl, ho0, hb⟩
         refine ⟨_, rfl, ?_⟩
         have n0_ := Aside0.mk (Kd.S_lower ho0 (below_size bel_))
         have n1_ := Aside0.mk (blk_below (g := gb212) (o := .cells #[.int .i64 a0_0, .int .i64 a0_1, .int .u64 a0_2, .slice A0_3 l0_3.length c0_3] 25 (0, 0)) (by (with_reducible repeat (first | refine blk_drewN ?_ _ | refine blk_drew ?_ | refine blk_alloc ?_ _)); exact BK212.out) hb)
         have n2_ := Aside0.mk (below_step bel_ hb)
         clear BK212
         clear HB
         have HO229 := n0_
         have BK212 := n1_
         have HB := n2_
         clear n0_ n1_ n2_
         (try clear hb)
         (try clear hb2)
         (try clear hk)
         (try clear hi)
         (try clear ho0)
         obtain ⟨Ao40, co40, eo40⟩ := Kd.S_slice HO229.out
         (first | subst eo40 | (injection eo40 with f1_ f2_ f3_; have f4_ := f1_.symm; have f5_ := f3_.symm; clear f1_ f2_ f3_; subst f4_; subst f5_))
         refine hK.out _ _ ⟨(blk_cell BK212.out 0).trans rfl, (blk_cell BK212.out 1).trans rfl, (blk_cell BK212.out 2).trans rfl, (blk_cell BK212.out 3).trans rfl⟩ (fun hHeld => ?_)
         clear hK K
         refine norm_ (a' := ?_) ?_ ?_
         rotate_left
         ·show Act.put _ (some 49) _ = _
          simp only [Act.put, List.setIfInBounds_toArray, List.set_cons_zero, List.set_cons_succ, i64_w, i32_w]
          rfl
         refine one_ (i := 5) (N := some 52) #[true, true, true, true, true, true, false, false, false, false, false] rfl rfl (one_of HT_.out (by kernel_rfl)) (by decide) (fun K hK => ?_)
         refine goes_ Try.func31 (by kernel_rfl) rfl #[.slice Ao40 t227.length co40, .int .u64 a0_2] (by rfl) rfl rfl (by (try simp only [List.map_toArray, List.map_cons, List.map_nil]); first | done | rfl | (simp only [List.length_drop, List.length_take]; rfl)) ?_
         with_reducible refine (field_New.calls k1 _ _ t227 a0_2 t230 t231 _ ?side1 ?side2 A37.out).mono ?_
         (case side1 => repeat (first | exact (Kd.S_reads' HO229.out).2.2 | (with_reducible refine Kd.C_alloc ?_ _) | (with_reducible refine Kd.C_drewN ?_ _) | (with_reducible refine Kd.C_drew ?_)))
         (case side2 => exact (Kd.S_reads' HO229.out).2.1)
         rintro e w41 ⟨v232, rfl, ho0, hb⟩
         refine ⟨_, rfl, ?_⟩
         have n0_ := Aside0.mk (Kd.S_below (by (with_reducible repeat (first | apply Kd.S_alloc | apply Kd.S_drewN | apply Kd.S_drew)); exact HO229.out) hb)
         have n1_ := Aside0.mk (Kd.R_lower ho0 (below_size bel_))
         have n2_ := Aside0.mk (blk_below (g := gb212) (o := .cells #[.int .i64 a0_0, .int .i64 a0_1, .int .u64 a0_2, .slice A0_3 l0_3.length c0_3] 25 (0, 0)) (by (with_reducible repeat (first | refine blk_drewN ?_ _ | refine blk_drew ?_ | refine blk_alloc ?_ _)); exact BK212.out) hb)
         have n3_ := Aside0.mk (below_step bel_ hb)
         clear HO229
         clear BK212
         clear HB
         have HO229 := n0_
         have HO233 := n1_
         have BK212 := n2_
         have HB := n3_
         clear n0_ n1_ n2_ n3_
         (try clear hb)
         (try clear hb2)
         (try clear hk)
         (try clear hi)
         (try clear ho0)
         refine hK.out _ _ ⟨(blk_cell BK212.out 0).trans rfl, (blk_cell BK212.out 1).trans rfl, (blk_cell BK212.out 2).trans rfl, (blk_cell BK212.out 3).trans rfl⟩ (fun hHeld => ?_)
         clear hK K
         refine norm_ (a' := ?_) ?_ ?_
         rotate_left
         ·show Act.put _ (some 52) _ = _
          simp only [Act.put, List.setIfInBounds_toArray, List.set_cons_zero, List.set_cons_succ, i64_w, i32_w]
          rfl
         refine pure_ (i := 6) (N := some 46) (v := ?_) (a' := ?_) #[true, true, true, true, true, true, true, false, false, false, false] rfl rfl (any_of HT_.out (by kernel_rfl)) (fun _ _ _ h => h) (Or.inl ⟨by rfl, ?_⟩) ?_ ?_
         rotate_left
         ·intro w'
          go_simp
          with_reducible rfl
         rotate_left
         ·simp only [Act.put, List.setIfInBounds_toArray, List.set_cons_zero, List.set_cons_succ, i64_w, i32_w]
          rfl
         refine pure_ (i := 7) (N := some 53) (v := ?_) (a' := ?_) #[true, true, true, true, true, true, true, true, false, false, false] rfl rfl (any_of HT_.out (by kernel_rfl)) (fun _ _ _ h => h) (Or.inl ⟨by rfl, ?_⟩) ?_ ?_
         rotate_left
         ·intro w'
          go_simp
          with_reducible rfl
         rotate_left
         ·simp only [Act.put, List.setIfInBounds_toArray, List.set_cons_zero, List.set_cons_succ, i64_w, i32_w]
          rfl
         refine pure_ (i := 8) (N := some 54) (v := ?_) (a' := ?_) #[true, true, true, true, true, true, true, true, true, false, false] rfl rfl (any_of HT_.out (by kernel_rfl)) (fun _ _ _ h => h) (Or.inl ⟨by rfl, ?_⟩) ?_ ?_
         rotate_left
         ·intro w'
          go_simp
          with_reducible rfl
         rotate_left
         ·simp only [Act.put, List.setIfInBounds_toArray, List.set_cons_zero, List.set_cons_succ, i64_w, i32_w]
          rfl
         refine pure_ (i := 9) (N := some 12) (v := ?_) (a' := ?_) #[true, true, true, true, true, true, true, true, true, true, false] rfl rfl (any_of HT_.out (by kernel_rfl)) (fun _ _ _ h => h) (Or.inl ⟨by rfl, ?_⟩) ?_ ?_
         rotate_left
         ·intro w'
          go_simp
          with_reducible rfl
         rotate_left
         ·simp only [Act.put, List.setIfInBounds_toArray, List.set_cons_zero, List.set_cons_succ, i64_w, i32_w]
          rfl
         refine pure_ (i := 10) (N := some 13) (v := ?_) (a' := ?_) #[true, true, true, true, true, true, true, true, true, true, true] rfl rfl (any_of HT_.out (by kernel_rfl)) (fun _ _ _ h => h) (Or.inl ⟨by rfl, ?_⟩) ?_ ?_
         rotate_left
         ·intro w'
          go_simp
          with_reducible rfl
         rotate_left
         ·simp only [Act.put, List.setIfInBounds_toArray, List.set_cons_zero, List.set_cons_succ, i64_w, i32_w]
          rfl
         refine done_ (done_of HT_.out (by kernel_rfl)) ?_
         try go_wp2
         go_meet
         case rel => exact ⟨_, (t230), (t231), (v232), (by first | rfl | (simp; done) | (simp [*]; done)), rfl, H', ⟨by have := HK1.out; first | omega | exact Nat.le_refl _⟩, ⟨by (with_reducible repeat (first | apply Kd.R_alloc | apply Kd.R_drewN | apply Kd.R_drew)); exact HO233.out⟩, ⟨by (with_reducible repeat (first | refine blk_drewN ?_ _ | refine blk_drew ?_ | refine blk_alloc ?_ _)); exact BK212.out⟩, ⟨bel_⟩⟩
      case rest =>
       clear HC24
       try clear c1
       try clear c2
       try clear p2
       try clear q2
       try clear hx2
       try clear c3
       try clear c5
       try clear c6
       try clear c6b0
       try clear c6b1
       try clear p6
       try clear c11
       try clear c12
       try clear c13
       try clear c13b0
       try clear c14
       try clear c14b0
       try clear c15
       try clear c15b0
       try clear c16
       try clear c16b0
       try clear c16b1
       try clear c18
       try clear c21
       try clear p21
       try clear q21
       try clear hx21
       try clear c28
       try clear c28b0
       try clear c28b1
       try clear c29
       try clear c30
       try clear c31
       try clear c32
       try clear c32b0
       try clear c32b1
       try clear hcz12_0
       try clear hcz12_1
       try clear hcz12_2
       try clear hcz12_3
       try clear hcz19_0
       try clear hcz19_1
       try clear hcz19_2
       try clear hcz22_0
       try clear hcz22_1
       try clear hcz22_2
       try clear hcz25_0
       try clear hcz25_1
       try clear hcz25_2
       try clear hcz25_3
       try clear hcz27_0
       try clear hcz27_1
       try clear hcz27_2
       try clear hcz27_3
       try clear hcz30_0
       try clear hcz30_1
       try clear hcz30_2
       try clear hcz30_3
       try clear hcz34_0
       try clear hcz34_1
       try clear hcz34_2
       try clear hcz34_3
       try clear hcz9_0
       try clear hcz9_1
       try clear hcz9_2
       try clear hcz9_3
       try clear hfz12_0
       try clear hfz12_1
       try clear hfz12_2
       try clear hfz12_3
       try clear hfz19_0
       try clear hfz19_1
       try clear hfz19_2
       try clear hfz22_0
       try clear hfz22_1
       try clear hfz22_2
       try clear hfz25_0
       try clear hfz25_1
       try clear hfz25_2
       try clear hfz25_3
       try clear hfz27_0
       try clear hfz27_1
       try clear hfz27_2
       try clear hfz27_3
       try clear hfz30_0
       try clear hfz30_1
       try clear hfz30_2
       try clear hfz30_3
       try clear hfz34_0
       try clear hfz34_1
       try clear hfz34_2
       try clear hfz34_3
       try clear hfz9_0
       try clear hfz9_1
       try clear hfz9_2
       try clear hfz9_3
       try clear hx214_0
       try clear hx214_1
       try clear hx214_2
       try clear p2
       try clear p214
       try clear q214
       obtain ⟨kq, x12_23, x13_23, u12, rfl, rfl, HA, HJ23, HO_12, BK212, HB⟩ := hcut
       cases kq with
       | zero => exact absurd HA.out (by simp [epicyclelaw06_FieldMakes.j1])
       | succ kj23 =>
        have H := HA.out
        clear HA
        simp only [epicyclelaw06_FieldMakes.j1] at H
        have HC42 := Aside0.mk H
        clear H
        go_upto_region 20 with (fail)
        go_cut [94] (fun v94 wc => ∃ (kq : Nat) (x94_41 : Bool), v94 = .bool x94_41 ∧ Aside0 (epicyclelaw06_FieldMakes.j2 kq a1 a2 t216 t218 x12_23 x94_41 = some true) ∧ Aside0 (kq ≤ kj23) ∧ Aside0 (Kd.R kFld 70 wc w.heap.size (fun _ => True) u12 x12_23) ∧ Aside0 (wc.heap[gb212]? = some (.cells #[.int .i64 a0_0, .int .i64 a0_1, .int .u64 a0_2, (.slice A0_3 l0_3.length c0_3)] 25 (0, 0))) ∧ Aside0 (Below w.heap.size w wc))
        case first =>
         have H := HC42.out
         clear HC42
         by_cases c43 : x13_23 = t218
         ·rw [if_pos c43] at H
          have c43b0 := beq_iff_eq.mpr c43
          have c43b1 := bne_eq_false_iff_eq.mpr c43
          clear c43
          (first | rw [c43b0] | (simp only [i64_w, i32_w]; rw [c43b0]) | skip)
          replace H := Option.bind_eq_some_iff.mp H
          obtain ⟨t234, A440, H⟩ := H
          (try dsimp only at H)
          have A44 := Aside0.mk A440
          clear A440
          by_cases c45 : t234 = t216
          ·rw [if_pos c45] at H
           have c45b0 := beq_iff_eq.mpr c45
           have c45b1 := bne_eq_false_iff_eq.mpr c45
           clear c45
           replace H := Option.bind_eq_some_iff.mp H
           obtain ⟨t235, A460, H⟩ := H
           (try dsimp only at H)
           have A46 := Aside0.mk A460
           clear A460
           by_cases c47 : t235 = t217
           ·rw [if_pos c47] at H
            have c47b0 := beq_iff_eq.mpr c47
            have c47b1 := bne_eq_false_iff_eq.mpr c47
            clear c47
            replace H := Option.bind_eq_some_iff.mp H
            obtain ⟨t236, A480, H⟩ := H
            (try dsimp only at H)
            have A48 := Aside0.mk A480
            clear A480
            have H' := Aside0.mk H
            clear H
            obtain ⟨Ao49, co49, eo49⟩ := Kd.R_slice HO_12.out
            subst eo49
            go_wp2_with (first | (go_at_call 33; (with_reducible refine (field_Field_P.calls _ _ x12_23 t234 _ ?side1 ?side2 A44.out).mono ?_); (case side1 => repeat (first | exact (Kd.R_reads' HO_12.out).2.2 | (with_reducible refine Kd.C_alloc ?_ _) | (with_reducible refine Kd.C_drewN ?_ _) | (with_reducible refine Kd.C_drew ?_))); (case side2 => exact (Kd.R_reads' HO_12.out).2.1); rintro e w' ⟨rfl, ⟨nd, rfl⟩⟩) | (go_at_call 20; (with_reducible refine (field_Field_G.calls _ _ x12_23 t235 _ ?side1 ?side2 A46.out).mono ?_); (case side1 => repeat (first | exact (Kd.R_reads' HO_12.out).2.2 | (with_reducible refine Kd.C_alloc ?_ _) | (with_reducible refine Kd.C_drewN ?_ _) | (with_reducible refine Kd.C_drew ?_))); (case side2 => exact (Kd.R_reads' HO_12.out).2.1); rintro e w' ⟨rfl, ⟨nd, rfl⟩⟩) | (go_at_call 34; (with_reducible refine (field_Field_Good.calls _ _ x12_23 a2 t236 _ ?side1 ?side2 A48.out).mono ?_); (case side1 => repeat (first | exact (Kd.R_reads' HO_12.out).2.2 | (with_reducible refine Kd.C_alloc ?_ _) | (with_reducible refine Kd.C_drewN ?_ _) | (with_reducible refine Kd.C_drew ?_))); (case side2 => exact (Kd.R_reads' HO_12.out).2.1); rintro e w' ⟨rfl, ⟨nd, rfl⟩⟩))
            go_meet
            case rel => exact ⟨_, ((t236 != (decide (a2 < t216)))), (by first | rfl | (simp; done) | (simp [*]; done)), H', ⟨by have := HK1.out; have := HJ23.out; first | omega | exact Nat.le_refl _⟩, ⟨by (with_reducible repeat (first | apply Kd.R_alloc | apply Kd.R_drewN | apply Kd.R_drew)); exact HO_12.out⟩, ⟨by (with_reducible repeat (first | refine blk_drewN ?_ _ | refine blk_drew ?_ | refine blk_alloc ?_ _)); exact BK212.out⟩, ⟨bel_⟩⟩
           ·rw [if_neg c47] at H
            have c47b0 := beq_eq_false_iff_ne.mpr c47
            have c47b1 := bne_iff_ne.mpr c47
            have H' := Aside0.mk H
            clear H
            obtain ⟨Ao50, co50, eo50⟩ := Kd.R_slice HO_12.out
            subst eo50
            go_wp2_with (first | (go_at_call 33; (with_reducible refine (field_Field_P.calls _ _ x12_23 t234 _ ?side1 ?side2 A44.out).mono ?_); (case side1 => repeat (first | exact (Kd.R_reads' HO_12.out).2.2 | (with_reducible refine Kd.C_alloc ?_ _) | (with_reducible refine Kd.C_drewN ?_ _) | (with_reducible refine Kd.C_drew ?_))); (case side2 => exact (Kd.R_reads' HO_12.out).2.1); rintro e w' ⟨rfl, ⟨nd, rfl⟩⟩) | (go_at_call 20; (with_reducible refine (field_Field_G.calls _ _ x12_23 t235 _ ?side1 ?side2 A46.out).mono ?_); (case side1 => repeat (first | exact (Kd.R_reads' HO_12.out).2.2 | (with_reducible refine Kd.C_alloc ?_ _) | (with_reducible refine Kd.C_drewN ?_ _) | (with_reducible refine Kd.C_drew ?_))); (case side2 => exact (Kd.R_reads' HO_12.out).2.1); rintro e w' ⟨rfl, ⟨nd, rfl⟩⟩))
            go_meet
            case rel => exact ⟨_, (true), (by first | rfl | (simp; done) | (simp [*]; done)), H', ⟨by have := HK1.out; have := HJ23.out; first | omega | exact Nat.le_refl _⟩, ⟨by (with_reducible repeat (first | apply Kd.R_alloc | apply Kd.R_drewN | apply Kd.R_drew)); exact HO_12.out⟩, ⟨by (with_reducible repeat (first | refine blk_drewN ?_ _ | refine blk_drew ?_ | refine blk_alloc ?_ _)); exact BK212.out⟩, ⟨bel_⟩⟩
          ·rw [if_neg c45] at H
           have c45b0 := beq_eq_false_iff_ne.mpr c45
           have c45b1 := bne_iff_ne.mpr c45
           have H' := Aside0.mk H
           clear H
           obtain ⟨Ao51, co51, eo51⟩ := Kd.R_slice HO_12.out
           subst eo51
           go_wp2_with (first | (go_at_call 33; (with_reducible refine (field_Field_P.calls _ _ x12_23 t234 _ ?side1 ?side2 A44.out).mono ?_); (case side1 => repeat (first | exact (Kd.R_reads' HO_12.out).2.2 | (with_reducible refine Kd.C_alloc ?_ _) | (with_reducible refine Kd.C_drewN ?_ _) | (with_reducible refine Kd.C_drew ?_))); (case side2 => exact (Kd.R_reads' HO_12.out).2.1); rintro e w' ⟨rfl, ⟨nd, rfl⟩⟩))
           go_meet
           case rel => exact ⟨_, (true), (by first | rfl | (simp; done) | (simp [*]; done)), H', ⟨by have := HK1.out; have := HJ23.out; first | omega | exact Nat.le_refl _⟩, ⟨by (with_reducible repeat (first | apply Kd.R_alloc | apply Kd.R_drewN | apply Kd.R_drew)); exact HO_12.out⟩, ⟨by (with_reducible repeat (first | refine blk_drewN ?_ _ | refine blk_drew ?_ | refine blk_alloc ?_ _)); exact BK212.out⟩, ⟨bel_⟩⟩
         ·rw [if_neg c43] at H
          have c43b0 := beq_eq_false_iff_ne.mpr c43
          have c43b1 := bne_iff_ne.mpr c43
          (first | rw [c43b0] | (simp only [i64_w, i32_w]; rw [c43b0]) | skip)
          have H' := Aside0.mk H
          clear H
          go_wp2
          go_meet
          case rel => exact ⟨_, (true), (by first | rfl | (simp; done) | (simp [*]; done)), H', ⟨by have := HK1.out; have := HJ23.out; first | omega | exact Nat.le_refl _⟩, ⟨by (with_reducible repeat (first | apply Kd.R_alloc | apply Kd.R_drewN | apply Kd.R_drew)); exact HO_12.out⟩, ⟨by (with_reducible repeat (first | refine blk_drewN ?_ _ | refine blk_drew ?_ | refine blk_alloc ?_ _)); exact BK212.out⟩, ⟨bel_⟩⟩
        case rest =>
         clear HC42
         try clear c1
         try clear c2
         try clear p2
         try clear q2
         try clear hx2
         try clear c3
         try clear c4
         try clear c5
         try clear c6
         try clear c6b0
         try clear c6b1
         try clear p6
         try clear c11
         try clear c12
         try clear c13
         try clear c13b0
         try clear c14
         try clear c14b0
         try clear c15
         try clear c15b0
         try clear c16
         try clear c16b0
         try clear c16b1
         try clear c18
         try clear c21
         try clear p21
         try clear q21
         try clear hx21
         try clear c28
         try clear c28b0
         try clear c28b1
         try clear c29
         try clear c30
         try clear c31
         try clear c32
         try clear c32b0
         try clear c32b1
         try clear c43
         try clear c43b0
         try clear c43b1
         try clear c45
         try clear c45b0
         try clear c45b1
         try clear c47
         try clear c47b0
         try clear c47b1
         try clear hcz12_0
         try clear hcz12_1
         try clear hcz12_2
         try clear hcz12_3
         try clear hcz19_0
         try clear hcz19_1
         try clear hcz19_2
         try clear hcz22_0
         try clear hcz22_1
         try clear hcz22_2
         try clear hcz25_0
         try clear hcz25_1
         try clear hcz25_2
         try clear hcz25_3
         try clear hcz27_0
         try clear hcz27_1
         try clear hcz27_2
         try clear hcz27_3
         try clear hcz30_0
         try clear hcz30_1
         try clear hcz30_2
         try clear hcz30_3
         try clear hcz34_0
         try clear hcz34_1
         try clear hcz34_2
         try clear hcz34_3
         try clear hcz9_0
         try clear hcz9_1
         try clear hcz9_2
         try clear hcz9_3
         try clear hfz12_0
         try clear hfz12_1
         try clear hfz12_2
         try clear hfz12_3
         try clear hfz19_0
         try clear hfz19_1
         try clear hfz19_2
         try clear hfz22_0
         try clear hfz22_1
         try clear hfz22_2
         try clear hfz25_0
         try clear hfz25_1
         try clear hfz25_2
         try clear hfz25_3
         try clear hfz27_0
         try clear hfz27_1
         try clear hfz27_2
         try clear hfz27_3
         try clear hfz30_0
         try clear hfz30_1
         try clear hfz30_2
         try clear hfz30_3
         try clear hfz34_0
         try clear hfz34_1
         try clear hfz34_2
         try clear hfz34_3
         try clear hfz9_0
         try clear hfz9_1
         try clear hfz9_2
         try clear hfz9_3
         try clear hx214_0
         try clear hx214_1
         try clear hx214_2
         try clear p2
         try clear p21
         try clear p214
         try clear p6
         try clear q2
         try clear q21
         try clear q214
         obtain ⟨kq, x94_41, rfl, HA, HJ41, HO_12, BK212, HB⟩ := hcut
         cases kq with
         | zero => exact absurd HA.out (by simp [epicyclelaw06_FieldMakes.j2])
         | succ kj41 =>
          have H := HA.out
          clear HA
          simp only [epicyclelaw06_FieldMakes.j2] at H
          by_cases c52 : x94_41 = true
          ·subst c52
           have H1 := H; rw [if_pos rfl] at H1
           clear H
           have H := H1
           clear H1
           exact absurd H (by simp)
          ·replace c52 := Bool.eq_false_iff.mpr c52
           subst c52
           have H1 := H; rw [if_neg (show ¬ (false = true) by decide)] at H1
           clear H
           have H := H1
           clear H1
           by_cases c53 : t218 = 0
           ·rw [if_pos c53] at H
            have c53b0 := beq_iff_eq.mpr c53
            have c53b1 := bne_eq_false_iff_eq.mpr c53
            clear c53
            replace H := Option.bind_eq_some_iff.mp H
            obtain ⟨t251, A540, H⟩ := H
            (try dsimp only at H)
            have A54 := Aside0.mk A540
            clear A540
            have H' := Aside0.mk H
            clear H
            obtain ⟨Ao55, co55, eo55⟩ := Kd.R_slice HO_12.out
            subst eo55
            go_wp2_with (first | ((with_reducible refine gate_callee (f := 35) rfl ?_); refine goesL_ (some 159) rfl rfl Try.func35 (by kernel_rfl) rfl #[toPtr (.slice Ao55 x12_23.length co55)] rfl (by (try simp only [List.map_toArray, List.map_cons, List.map_nil]); first | done | (rw [hT_HO_12] <;> rfl) | rfl | (simp only [List.length_drop, List.length_take]; rfl)) ?_; (with_reducible refine (field_Field_Factors.calls _ _ x12_23 t251 _ ?side1 ?side2 A54.out).mono ?_); (case side1 => repeat (first | exact (Kd.R_reads' HO_12.out).2.2 | (with_reducible refine Kd.C_alloc ?_ _) | (with_reducible refine Kd.C_drewN ?_ _) | (with_reducible refine Kd.C_drew ?_))); (case side2 => exact (Kd.R_reads' HO_12.out).2.1); rintro e w56 ⟨v252, rfl, ho0, hb⟩; refine ⟨_, rfl, ?_⟩; have n0_ := Aside0.mk (Kd.R_below (by (with_reducible repeat (first | apply Kd.R_alloc | apply Kd.R_drewN | apply Kd.R_drew)); exact HO_12.out) hb); have n1_ := Aside0.mk (Kd.R_lower ho0 (below_size bel_)); have n2_ := Aside0.mk (blk_below (g := gb212) (o := .cells #[.int .i64 a0_0, .int .i64 a0_1, .int .u64 a0_2, .slice A0_3 l0_3.length c0_3] 25 (0, 0)) (by (with_reducible repeat (first | refine blk_drewN ?_ _ | refine blk_drew ?_ | refine blk_alloc ?_ _)); exact BK212.out) hb); have n3_ := Aside0.mk (below_step bel_ hb); clear HO_12; clear BK212; clear HB; have HO_12 := n0_; have HO253 := n1_; have BK212 := n2_; have HB := n3_; clear n0_ n1_ n2_ n3_; (try clear hb); (try clear hb2); (try clear hk); (try clear hi); (try clear ho0); obtain ⟨Ao57, co57, eo57⟩ := Kd.R_slice HO253.out; subst eo57))
            go_loopg [16, 161] kj41 (fun kq v16 v161 w' => ∃ (x16_4 : Int) (x161_4 : Int), v16 = .int .u64 x16_4 ∧ v161 = .int .i64 x161_4 ∧ Aside0 (epicyclelaw06_FieldMakes.l1 kq t216 x12_23 x16_4 t251 (t251.length : Int) x161_4 = some true) ∧ Aside0 (kq ≤ kj41) ∧ Aside0 (Kd.R kFld 70 w' w.heap.size (fun _ => True) (.slice Ao55 x12_23.length co55) x12_23) ∧ Aside0 (Kd.R k65 65 w' w.heap.size (fun _ => True) (.slice Ao57 t251.length co57) t251) ∧ Aside0 (w'.heap[gb212]? = some (.cells #[.int .i64 a0_0, .int .i64 a0_1, .int .u64 a0_2, (.slice A0_3 l0_3.length c0_3)] 25 (0, 0))) ∧ Aside0 (Below w.heap.size w w'))
            case atStart => exact ⟨(1), (0), (by first | rfl | (simp; done) | (simp [*]; done)), (by first | rfl | (simp; done) | (simp [*]; done)), H', ⟨Nat.le_refl _⟩, ⟨by (with_reducible repeat (first | apply Kd.R_alloc | apply Kd.R_drewN | apply Kd.R_drew)); exact HO_12.out⟩, ⟨by (with_reducible repeat (first | apply Kd.R_alloc | apply Kd.R_drewN | apply Kd.R_drew)); exact HO253.out⟩, ⟨by (with_reducible repeat (first | refine blk_drewN ?_ _ | refine blk_drew ?_ | refine blk_alloc ?_ _)); exact BK212.out⟩, ⟨bel_⟩⟩
            case round =>
             clear H'
             try clear c1
             try clear c2
             try clear p2
             try clear q2
             try clear hx2
             try clear c3
             try clear c4
             try clear c5
             try clear c6
             try clear c6b0
             try clear c6b1
             try clear p6
             try clear c11
             try clear c12
             try clear c13
             try clear c13b0
             try clear c14
             try clear c14b0
             try clear c15
             try clear c15b0
             try clear c16
             try clear c16b0
             try clear c16b1
             try clear c18
             try clear c21
             try clear p21
             try clear q21
             try clear hx21
             try clear c28
             try clear c28b0
             try clear c28b1
             try clear c29
             try clear c30
             try clear c31
             try clear c32
             try clear c32b0
             try clear c32b1
             try clear c35
             try clear c43
             try clear c43b0
             try clear c43b1
             try clear c45
             try clear c45b0
             try clear c45b1
             try clear c47
             try clear c47b0
             try clear c47b1
             try clear c52
             try clear c53
             try clear c53b0
             try clear c53b1
             try clear hcz12_0
             try clear hcz12_1
             try clear hcz12_2
             try clear hcz12_3
             try clear hcz19_0
             try clear hcz19_1
             try clear hcz19_2
             try clear hcz22_0
             try clear hcz22_1
             try clear hcz22_2
             try clear hcz25_0
             try clear hcz25_1
             try clear hcz25_2
             try clear hcz25_3
             try clear hcz27_0
             try clear hcz27_1
             try clear hcz27_2
             try clear hcz27_3
             try clear hcz30_0
             try clear hcz30_1
             try clear hcz30_2
             try clear hcz30_3
             try clear hcz34_0
             try clear hcz34_1
             try clear hcz34_2
             try clear hcz34_3
             try clear hcz9_0
             try clear hcz9_1
             try clear hcz9_2
             try clear hcz9_3
             try clear hfz12_0
             try clear hfz12_1
             try clear hfz12_2
             try clear hfz12_3
             try clear hfz19_0
             try clear hfz19_1
             try clear hfz19_2
             try clear hfz22_0
             try clear hfz22_1
             try clear hfz22_2
             try clear hfz25_0
             try clear hfz25_1
             try clear hfz25_2
             try clear hfz25_3
             try clear hfz27_0
             try clear hfz27_1
             try clear hfz27_2
             try clear hfz27_3
             try clear hfz30_0
             try clear hfz30_1
             try clear hfz30_2
             try clear hfz30_3
             try clear hfz34_0
             try clear hfz34_1
             try clear hfz34_2
             try clear hfz34_3
             try clear hfz9_0
             try clear hfz9_1
             try clear hfz9_2
             try clear hfz9_3
             try clear hx214_0
             try clear hx214_1
             try clear hx214_2
             try clear p2
             try clear p21
             try clear p214
             try clear p6
             try clear q2
             try clear q21
             try clear q214
             obtain ⟨x16_4, x161_4, rfl, rfl, HA, HK4, HO_12, HO_159, BK212, HB⟩ := hrel
             cases gk with
             | zero => exact absurd HA.out (by simp [epicyclelaw06_FieldMakes.l1])
             | succ k4 =>
              have H := HA.out
              clear HA
              simp only [epicyclelaw06_FieldMakes.l1] at H
              by_cases c58 : x161_4 < (t251.length : Int)
              ·rw [if_pos c58] at H
               have c58b0 := decide_eq_true c58
               clear c58
               by_cases c59 : 0 ≤ x161_4
               ·rw [if_pos c59] at H
                have c59b0 := decide_eq_true c59
                clear c59
                by_cases c60 : x161_4 < (t251.length : Int)
                ·rw [if_pos c60] at H
                 have c60b0 := decide_eq_true c60
                 clear c60
                 have HC61 := Aside0.mk H
                 clear H
                 have p254 : 0 ≤ (x161_4 : Int) := of_decide_eq_true (by assumption)
                 have q254 : x161_4 < (t251.length : Int) := of_decide_eq_true (by assumption)
                 obtain ⟨ad254, e254, hx254_0, hx254_1⟩ := at_T65 (Kd.R_reads' HO_159.out).2.2 x161_4 p254 q254
                 cases e254
                 replace p254 := eq_true p254
                 replace q254 := eq_true q254
                 go_upto_region 29 with (first | ((with_reducible refine gate_dst (N := 18) rfl ?_); (try (refine gate_guard (by rfl) ?_; dsimp only)); refine box_event ?hg (N := 18) ?hd (cs := #[.int .u64 0, .int .i64 0]) (t := 65) ?hr ?_; (case hd => rfl); (case hg => rfl); (case hr => first | (go_simp; done) | (go_simp; rfl)); intro gb255 hg w62 hbox hb; have n0_ := Aside0.mk (Kd.R_below (Kd.R_elderB (by (with_reducible repeat (first | apply Kd.R_alloc | apply Kd.R_drewN | apply Kd.R_drew)); exact HO_12.out) gb255 (Nat.le_of_eq hg.symm)) hb); have n1_ := Aside0.mk (Kd.R_below (Kd.R_elderB (by (with_reducible repeat (first | apply Kd.R_alloc | apply Kd.R_drewN | apply Kd.R_drew)); exact HO_159.out) gb255 (Nat.le_of_eq hg.symm)) hb); have n2_ := Aside0.mk (blk_below (g := gb212) (o := .cells #[.int .i64 a0_0, .int .i64 a0_1, .int .u64 a0_2, .slice A0_3 l0_3.length c0_3] 25 (0, 0)) (by (with_reducible repeat (first | refine blk_drewN ?_ _ | refine blk_drew ?_ | refine blk_alloc ?_ _)); exact BK212.out) hb); have n3_ := Aside0.mk (below_step bel_ hb); have n4_ := Aside0.mk (hbox); have n5_ := Aside0.mk ((by rw [hg]; exact (below_size bel_) : w.heap.size ≤ gb255)); have n6_ := Aside0.mk ((by rw [hg]; exact (below_size bel_) : w.heap.size ≤ gb255)); have n7_ := Aside0.mk ((by rw [hg]; exact Nat.ne_of_lt (blk_lt (g := gb212) (o := .cells #[.int .i64 a0_0, .int .i64 a0_1, .int .u64 a0_2, .slice A0_3 l0_3.length c0_3] 25 (0, 0)) (by (with_reducible repeat (first | refine blk_drewN ?_ _ | refine blk_drew ?_ | refine blk_alloc ?_ _)); exact BK212.out)) : gb212 ≠ gb255)); have n8_ := Aside0.mk ((by rw [hg]; exact Nat.ne_of_gt (blk_lt (g := gb212) (o := .cells #[.int .i64 a0_0, .int .i64 a0_1, .int .u64 a0_2, .slice A0_3 l0_3.length c0_3] 25 (0, 0)) (by (with_reducible repeat (first | refine blk_drewN ?_ _ | refine blk_drew ?_ | refine blk_alloc ?_ _)); exact BK212.out)) : gb255 ≠ gb212)); clear HO_12; clear HO_159; clear BK212; clear HB; have HO_12 := n0_; have HO_159 := n1_; have BK212 := n2_; have HB := n3_; have BK255 := n4_; have GW255 := n5_; have GE255 := n6_; have NB212_255 := n7_; have NB255_212 := n8_; clear n0_ n1_ n2_ n3_ n4_ n5_ n6_ n7_ n8_; clear hb hbox hg; have hnb63 := NB255_212.out; have hnc63 := NB212_255.out; have hcz64_0 : w62.cell? ⟨gb255, 0, none⟩ = some (.int .u64 0) := (blk_cell BK255.out 0).trans rfl; have hcz64_1 : w62.cell? ⟨gb255, 1, none⟩ = some (.int .i64 0) := (blk_cell BK255.out 1).trans rfl; have hfz64_0 := blk_frozen BK255.out 0; have hfz64_1 := blk_frozen BK255.out 1))
                 (try simp only [Act.put, List.setIfInBounds_toArray, List.set_cons_zero, List.set_cons_succ])
                 go_cut [189] (fun v189 wc => ∃ (kq : Nat) (x189_60 : Bool), v189 = .bool x189_60 ∧ Aside0 (epicyclelaw06_FieldMakes.j4 kq t216 x12_23 x16_4 t251 (t251.length : Int) x161_4 x189_60 ((rd_T65 t251 x161_4).f0) ((rd_T65 t251 x161_4).f1) = some true) ∧ Aside0 (kq ≤ k4) ∧ Aside0 (Kd.R kFld 70 wc w.heap.size (fun _ => True) (.slice Ao55 x12_23.length co55) x12_23) ∧ Aside0 (Kd.R k65 65 wc w.heap.size (fun k_ => k_ ≠ gb255) (.slice (some ad254) t251.length co57) t251) ∧ Aside0 (wc.heap[gb212]? = some (.cells #[.int .i64 a0_0, .int .i64 a0_1, .int .u64 a0_2, (.slice A0_3 l0_3.length c0_3)] 25 (0, 0))) ∧ Aside0 (wc.heap[gb255]? = some (.cells #[.int .u64 ((rd_T65 t251 x161_4).f0), .int .i64 ((rd_T65 t251 x161_4).f1)] 65 (0, 0))) ∧ Aside0 (Below w.heap.size w wc))
                 case first =>
                  have H := HC61.out
                  clear HC61
                  by_cases c65 : x161_4 > 0
                  ·rw [if_pos c65] at H
                   have c65b0 := decide_eq_true c65
                   clear c65
                   (first | rw [c65b0] | (simp only [i64_w, i32_w]; rw [c65b0]) | skip)
                   replace H := Option.bind_eq_some_iff.mp H
                   obtain ⟨t256, A660, H⟩ := H
                   (try dsimp only at H)
                   have A66 := Aside0.mk A660
                   clear A660
                   obtain ⟨ji67, hji67⟩ : ∃ j_ : Int, (wrap64 (x161_4 - 1)) = j_ := ⟨_, rfl⟩
                   (first | rw [hji67] at H | simp only [hji67] at H)
                   (try rw [hji67] at A66)
                   have hji67w : (IntKind.i64.wrap (x161_4 - 1)) = ji67 := (i64_w _).trans hji67
                   by_cases c68 : 0 ≤ (ji67)
                   ·rw [if_pos c68] at H
                    have c68b0 := decide_eq_true c68
                    clear c68
                    by_cases c69 : (ji67) < (t256.length : Int)
                    ·rw [if_pos c69] at H
                     have c69b0 := decide_eq_true c69
                     clear c69
                     by_cases c70 : ((rd_T65 t256 (ji67)).f0) ≥ ((rd_T65 t251 x161_4).f0)
                     ·rw [if_pos c70] at H
                      have c70b0 := decide_eq_true c70
                      clear c70
                      have H' := Aside0.mk H
                      clear H
                      try go_wp2
                      have n0_ : Aside0 (Kd.R kFld 70 ((w62.setCell ⟨gb255, 0, none⟩ (.int .u64 ((rd_T65 t251 x161_4).f0))).setCell ⟨gb255, 1, none⟩ (.int .i64 ((rd_T65 t251 x161_4).f1))) w.heap.size (fun _ => True) (.slice Ao55 x12_23.length co55) x12_23) := ⟨by (with_reducible repeat (first | apply Kd.R_alloc | apply Kd.R_drewN | apply Kd.R_drew)); exact Kd.R_mono (Kd.R_far (p := ⟨gb255, 1, none⟩) (Kd.R_far (p := ⟨gb255, 0, none⟩) (Kd.R_mono HO_12.out (fun k_ hk => (⟨hk, hk.2⟩ : _ ∧ k_ ≠ gb255))) (fun _ hk => hk.2) (.int .u64 ((rd_T65 t251 x161_4).f0))) (fun _ hk => hk.2) (.int .i64 ((rd_T65 t251 x161_4).f1))) (fun _ hk => trivial)⟩
                      have n1_ : Aside0 (Kd.R k65 65 ((w62.setCell ⟨gb255, 0, none⟩ (.int .u64 ((rd_T65 t251 x161_4).f0))).setCell ⟨gb255, 1, none⟩ (.int .i64 ((rd_T65 t251 x161_4).f1))) w.heap.size (fun k_ => k_ ≠ gb255) (.slice (some ad254) t251.length co57) t251) := ⟨by (with_reducible repeat (first | apply Kd.R_alloc | apply Kd.R_drewN | apply Kd.R_drew)); exact Kd.R_mono (Kd.R_far (p := ⟨gb255, 1, none⟩) (Kd.R_far (p := ⟨gb255, 0, none⟩) (Kd.R_mono HO_159.out (fun k_ hk => (⟨hk, hk.2⟩ : _ ∧ k_ ≠ gb255))) (fun _ hk => hk.2) (.int .u64 ((rd_T65 t251 x161_4).f0))) (fun _ hk => hk.2) (.int .i64 ((rd_T65 t251 x161_4).f1))) (fun _ hk => hk.1.2)⟩
                      have n2_ : Aside0 (((w62.setCell ⟨gb255, 0, none⟩ (.int .u64 ((rd_T65 t251 x161_4).f0))).setCell ⟨gb255, 1, none⟩ (.int .i64 ((rd_T65 t251 x161_4).f1))).heap[gb212]? = some (.cells #[.int .i64 a0_0, .int .i64 a0_1, .int .u64 a0_2, .slice A0_3 l0_3.length c0_3] 25 (0, 0))) := ⟨by (with_reducible repeat (first | refine blk_drewN ?_ _ | refine blk_drew ?_ | refine blk_alloc ?_ _)); refine blk_far ?_ NB212_255.out _; (with_reducible repeat (first | refine blk_drewN ?_ _ | refine blk_drew ?_ | refine blk_alloc ?_ _)); refine blk_far ?_ NB212_255.out _; (with_reducible repeat (first | refine blk_drewN ?_ _ | refine blk_drew ?_ | refine blk_alloc ?_ _)); exact BK212.out⟩
                      have n3_ : Aside0 (((w62.setCell ⟨gb255, 0, none⟩ (.int .u64 ((rd_T65 t251 x161_4).f0))).setCell ⟨gb255, 1, none⟩ (.int .i64 ((rd_T65 t251 x161_4).f1))).heap[gb255]? = some (.cells #[.int .u64 ((rd_T65 t251 x161_4).f0), .int .i64 ((rd_T65 t251 x161_4).f1)] 65 (0, 0))) := ⟨by (with_reducible repeat (first | refine blk_drewN ?_ _ | refine blk_drew ?_ | refine blk_alloc ?_ _)); refine blk_put (cs := #[.int .u64 ((rd_T65 t251 x161_4).f0), .int .i64 0]) ?_ 1 _ rfl; (with_reducible repeat (first | refine blk_drewN ?_ _ | refine blk_drew ?_ | refine blk_alloc ?_ _)); refine blk_put (cs := #[.int .u64 0, .int .i64 0]) ?_ 0 _ rfl; (with_reducible repeat (first | refine blk_drewN ?_ _ | refine blk_drew ?_ | refine blk_alloc ?_ _)); exact BK255.out⟩
                      have n4_ : Aside0 (Below w.heap.size w ((w62.setCell ⟨gb255, 0, none⟩ (.int .u64 ((rd_T65 t251 x161_4).f0))).setCell ⟨gb255, 1, none⟩ (.int .i64 ((rd_T65 t251 x161_4).f1)))) := ⟨bel_⟩
                      (try clear HO_12)
                      (try clear HO_159)
                      (try clear BK212)
                      (try clear BK255)
                      (try clear HB)
                      generalize ((w62.setCell ⟨gb255, 0, none⟩ (.int .u64 ((rd_T65 t251 x161_4).f0))).setCell ⟨gb255, 1, none⟩ (.int .i64 ((rd_T65 t251 x161_4).f1))) = w71 at n0_ n1_ n2_ n3_ n4_ ⊢
                      have HO_12 := n0_
                      have HO_159 := n1_
                      have BK212 := n2_
                      have BK255 := n3_
                      have HB := n4_
                      clear n0_ n1_ n2_ n3_ n4_
                      have n0_ := Aside0.mk (Kd.R_drew HO_12.out)
                      have n1_ := Aside0.mk (Kd.R_drew HO_159.out)
                      have n2_ := Aside0.mk (blk_drew BK212.out)
                      have n3_ := Aside0.mk (blk_drew BK255.out)
                      have n4_ := Aside0.mk (below_drew1 HB.out)
                      clear HO_12
                      clear HO_159
                      clear BK212
                      clear BK255
                      clear HB
                      have HO_12 := n0_
                      have HO_159 := n1_
                      have BK212 := n2_
                      have BK255 := n3_
                      have HB := n4_
                      clear n0_ n1_ n2_ n3_ n4_
                      refine start_ (n := 24) (S := fun w' => w'.cell? ⟨gb255, 0, none⟩ = some (.int .u64 ((rd_T65 t251 x161_4).f0)) ∧ w'.cell? ⟨gb255, 1, none⟩ = some (.int .i64 ((rd_T65 t251 x161_4).f1))) (ds := []) #[false, false, false, false, false, false, false, false, false, false, false, false, false, false, false, false, false, false, false, false, false, false, false, false] (by kernel_rfl) rfl rfl ⟨(blk_cell BK255.out 0).trans rfl, (blk_cell BK255.out 1).trans rfl⟩ (fun hHeld => ?_); refine with_tabW epicyclelaw06_FieldMakes.tab29 epicyclelaw06_FieldMakes.bits29 (fun HT_ HW_ => ?_)
                      generalize w71.drew = w72 at HO_12 HO_159 BK212 BK255 HB hHeld ⊢
                      refine pure_ (i := 0) (N := some 166) (v := ?_) (a' := ?_) #[true, false, false, false, false, false, false, false, false, false, false, false, false, false, false, false, false, false, false, false, false, false, false, false] rfl rfl (any_of HT_.out (by kernel_rfl)) (fun _ _ _ h => h) (Or.inl ⟨by rfl, ?_⟩) ?_ ?_
                      rotate_left
                      ·intro w'
                       go_simp
                       with_reducible rfl
                      rotate_left
                      ·simp only [Act.put, List.setIfInBounds_toArray, List.set_cons_zero, List.set_cons_succ, i64_w, i32_w]
                       rfl
                      refine pure_ (i := 1) (N := some 167) (v := ?_) (a' := ?_) #[true, true, false, false, false, false, false, false, false, false, false, false, false, false, false, false, false, false, false, false, false, false, false, false] rfl rfl (any_of HT_.out (by kernel_rfl)) (fun _ _ _ h => h) (Or.inl ⟨by rfl, ?_⟩) ?_ ?_
                      rotate_left
                      ·intro w'
                       go_simp
                       with_reducible rfl
                      rotate_left
                      ·simp only [Act.put, List.setIfInBounds_toArray, List.set_cons_zero, List.set_cons_succ, i64_w, i32_w]
                       rfl
                      refine pure_ (i := 2) (N := some 168) (v := ?_) (a' := ?_) #[true, true, true, false, false, false, false, false, false, false, false, false, false, false, false, false, false, false, false, false, false, false, false, false] rfl rfl (any_of HT_.out (by kernel_rfl)) (fun _ _ _ h => h) (Or.inl ⟨by rfl, ?_⟩) ?_ ?_
                      rotate_left
                      ·intro w'
                       go_simp
                       with_reducible rfl
                      rotate_left
                      ·simp only [Act.put, List.setIfInBounds_toArray, List.set_cons_zero, List.set_cons_succ, i64_w, i32_w]
                       rfl
                      refine pure_ (i := 3) (N := some 169) (v := ?_) (a' := ?_) #[true, true, true, true, false, false, false, false, false, false, false, false, false, false, false, false, false, false, false, false, false, false, false, false] rfl rfl (any_of HT_.out (by kernel_rfl)) (fun _ _ _ h => h) (Or.inl ⟨by rfl, ?_⟩) ?_ ?_
                      rotate_left
                      ·intro w'
                       go_simp
                       with_reducible rfl
                      rotate_left
                      ·simp only [Act.put, List.setIfInBounds_toArray, List.set_cons_zero, List.set_cons_succ, i64_w, i32_w]
                       rfl
                      refine pure_ (i := 5) (N := some 171) (v := ?_) (a' := ?_) #[true, true, true, true, false, true, false, false, false, false, false, false, false, false, false, false, false, false, false, false, false, false, false, false] rfl rfl (any_of HT_.out (by kernel_rfl)) (fun _ _ _ h => h) (Or.inl ⟨by rfl, ?_⟩) ?_ ?_
                      rotate_left
                      ·intro w'
                       go_simp
                       with_reducible rfl
                      rotate_left
                      ·simp only [Act.put, List.setIfInBounds_toArray, List.set_cons_zero, List.set_cons_succ, i64_w, i32_w]
                       rfl
                      refine pure_ (i := 6) (N := some 172) (v := ?_) (a' := ?_) #[true, true, true, true, false, true, true, false, false, false, false, false, false, false, false, false, false, false, false, false, false, false, false, false] rfl rfl (any_of HT_.out (by kernel_rfl)) (fun _ _ _ h => h) (Or.inl ⟨by rfl, ?_⟩) ?_ ?_
                      rotate_left
                      ·intro w'
                       go_simp
                       with_reducible rfl
                      rotate_left
                      ·simp only [Act.put, List.setIfInBounds_toArray, List.set_cons_zero, List.set_cons_succ, i64_w, i32_w]
                       rfl
                      refine pure_ (i := 10) (N := some 176) (v := ?_) (a' := ?_) #[true, true, true, true, false, true, true, false, false, false, true, false, false, false, false, false, false, false, false, false, false, false, false, false] rfl rfl (any_of HT_.out (by kernel_rfl)) (fun _ _ _ h => h) (Or.inl ⟨by rfl, ?_⟩) ?_ ?_
                      rotate_left
                      ·intro w'
                       go_simp
                       with_reducible rfl
                      rotate_left
                      ·simp only [Act.put, List.setIfInBounds_toArray, List.set_cons_zero, List.set_cons_succ, i64_w, i32_w]
                       rfl
                      refine take_ (i := 11) (N := some 177) (v := ?_) (a' := ?_) #[true, true, true, true, false, true, true, false, false, false, true, true, false, false, false, false, false, false, false, false, false, false, false, false] rfl rfl (take_ofW HT_.out HW_.out (by kernel_rfl)) (fun _ _ _ h => h) (Or.inl ⟨by rfl, ?_⟩) hHeld ?_ ?_
                      rotate_left
                      ·rintro w' ⟨s0, s1⟩
                       go_simp
                       with_reducible rfl
                      rotate_left
                      ·simp only [Act.put, List.setIfInBounds_toArray, List.set_cons_zero, List.set_cons_succ, i64_w, i32_w]
                       rfl
                      refine one_ (i := 4) (N := some 170) #[true, true, true, true, true, true, true, false, false, false, true, true, false, false, false, false, false, false, false, false, false, false, false, false] rfl rfl (one_of HT_.out (by kernel_rfl)) (by decide) (fun K hK => ?_)
                      refine goes_ Try.func35 (by kernel_rfl) rfl #[toPtr (.slice Ao55 x12_23.length co55)] (by rfl) rfl rfl (by (try simp only [List.map_toArray, List.map_cons, List.map_nil]); first | done | (rw [hT_HO_12] <;> rfl) | rfl | (simp only [List.length_drop, List.length_take]; rfl)) ?_
                      with_reducible refine (field_Field_Factors.calls _ _ x12_23 t256 _ ?side1 ?side2 A66.out).mono ?_
                      (case side1 => repeat (first | exact (Kd.R_reads' HO_12.out).2.2 | (with_reducible refine Kd.C_alloc ?_ _) | (with_reducible refine Kd.C_drewN ?_ _) | (with_reducible refine Kd.C_drew ?_)))
                      (case side2 => exact (Kd.R_reads' HO_12.out).2.1)
                      rintro e w73 ⟨v257, rfl, ho0, hb⟩
                      refine ⟨_, rfl, ?_⟩
                      have n0_ := Aside0.mk (Kd.R_below (by (with_reducible repeat (first | apply Kd.R_alloc | apply Kd.R_drewN | apply Kd.R_drew)); exact HO_12.out) hb)
                      have n1_ := Aside0.mk (Kd.R_elder' (by (with_reducible repeat (first | apply Kd.R_alloc | apply Kd.R_drewN | apply Kd.R_drew)); exact HO_159.out) (Kd.R_base ho0) hb)
                      have n2_ := Aside0.mk (Kd.R_lower (Kd.R_newB (Kd.R_new' ho0 (Kd.R_lt (by (with_reducible repeat (first | apply Kd.R_alloc | apply Kd.R_drewN | apply Kd.R_drew)); exact HO_159.out))) (g := gb255) (o := .cells #[.int .u64 ((rd_T65 t251 x161_4).f0), .int .i64 ((rd_T65 t251 x161_4).f1)] 65 (0, 0)) (by (with_reducible repeat (first | refine blk_drewN ?_ _ | refine blk_drew ?_ | refine blk_alloc ?_ _)); exact BK255.out)) (below_size bel_))
                      have n3_ := Aside0.mk (blk_below (g := gb212) (o := .cells #[.int .i64 a0_0, .int .i64 a0_1, .int .u64 a0_2, .slice A0_3 l0_3.length c0_3] 25 (0, 0)) (by (with_reducible repeat (first | refine blk_drewN ?_ _ | refine blk_drew ?_ | refine blk_alloc ?_ _)); exact BK212.out) hb)
                      have n4_ := Aside0.mk (blk_below (g := gb255) (o := .cells #[.int .u64 ((rd_T65 t251 x161_4).f0), .int .i64 ((rd_T65 t251 x161_4).f1)] 65 (0, 0)) (by (with_reducible repeat (first | refine blk_drewN ?_ _ | refine blk_drew ?_ | refine blk_alloc ?_ _)); exact BK255.out) hb)
                      have n5_ := Aside0.mk (below_step bel_ hb)
                      clear HO_12
                      clear HO_159
                      clear BK212
                      clear BK255
                      clear HB
                      have HO_12 := n0_
                      have HO_159 := n1_
                      have HO258 := n2_
                      have BK212 := n3_
                      have BK255 := n4_
                      have HB := n5_
                      clear n0_ n1_ n2_ n3_ n4_ n5_
                      (try clear hb)
                      (try clear hb2)
                      (try clear hk)
                      (try clear hi)
                      (try clear ho0)
                      obtain ⟨Ao74, co74, eo74⟩ := Kd.R_slice HO258.out
                      (first | subst eo74 | (injection eo74 with f1_ f2_ f3_; have f4_ := f1_.symm; have f5_ := f3_.symm; clear f1_ f2_ f3_; subst f4_; subst f5_))
                      have p259 : 0 ≤ ((ji67) : Int) := of_decide_eq_true (by assumption)
                      have q259 : (ji67) < (t256.length : Int) := of_decide_eq_true (by assumption)
                      obtain ⟨ad259, e259, hx259_0, hx259_1⟩ := at_T65 (Kd.R_reads' HO258.out).2.2 (ji67) p259 q259
                      cases e259
                      replace p259 := eq_true p259
                      replace q259 := eq_true q259
                      refine hK.out _ _ ⟨(blk_cell BK255.out 0).trans rfl, (blk_cell BK255.out 1).trans rfl⟩ (fun _ => swapS (S' := fun w' => w'.cell? ⟨gb255, 0, none⟩ = some (.int .u64 ((rd_T65 t251 x161_4).f0)) ∧ w'.cell? ⟨gb255, 1, none⟩ = some (.int .i64 ((rd_T65 t251 x161_4).f1)) ∧ w'.cell? (ad259.add (((ji67)).toNat * 2)) = some (.int .u64 ((rd_T65 t256 (ji67)).f0)) ∧ w'.cell? ⟨(ad259.add (((ji67)).toNat * 2)).block, (ad259.add (((ji67)).toNat * 2)).off + 1, none⟩ = some (.int .i64 ((rd_T65 t256 (ji67)).f1))) (fun _ h => ⟨h.1, h.2.1⟩) _ _ _ _ ⟨(blk_cell BK255.out 0).trans rfl, (blk_cell BK255.out 1).trans rfl, hx259_0, hx259_1⟩ (fun hHeld => ?_))
                      clear hK K
                      refine norm_ (a' := ?_) ?_ ?_
                      rotate_left
                      ·show Act.put _ (some 170) _ = _
                       simp only [Act.put, List.setIfInBounds_toArray, List.set_cons_zero, List.set_cons_succ, i64_w, i32_w]
                       rfl
                      refine pure_ (i := 7) (N := some 173) (v := ?_) (a' := ?_) #[true, true, true, true, true, true, true, true, false, false, true, true, false, false, false, false, false, false, false, false, false, false, false, false] rfl rfl (any_of HT_.out (by kernel_rfl)) (fun _ _ _ h => h) (Or.inl ⟨by rfl, ?_⟩) ?_ ?_
                      rotate_left
                      ·intro w'
                       go_simp
                       with_reducible rfl
                      rotate_left
                      ·simp only [Act.put, List.setIfInBounds_toArray, List.set_cons_zero, List.set_cons_succ, i64_w, i32_w]
                       rfl
                      refine pure_ (i := 8) (N := some 174) (v := ?_) (a' := ?_) #[true, true, true, true, true, true, true, true, true, false, true, true, false, false, false, false, false, false, false, false, false, false, false, false] rfl rfl (any_of HT_.out (by kernel_rfl)) (fun _ _ _ h => h) (Or.inl ⟨by rfl, ?_⟩) ?_ ?_
                      rotate_left
                      ·intro w'
                       go_simp
                       with_reducible rfl
                      rotate_left
                      ·simp only [Act.put, List.setIfInBounds_toArray, List.set_cons_zero, List.set_cons_succ, i64_w, i32_w]
                       rfl
                      refine take_ (i := 9) (N := some 175) (v := ?_) (a' := ?_) #[true, true, true, true, true, true, true, true, true, true, true, true, false, false, false, false, false, false, false, false, false, false, false, false] rfl rfl (take_ofW HT_.out HW_.out (by kernel_rfl)) (fun _ _ _ h => h) (Or.inl ⟨by rfl, ?_⟩) hHeld ?_ ?_
                      rotate_left
                      ·rintro w' ⟨s0, s1, s2, s3⟩
                       go_simp
                       with_reducible rfl
                      rotate_left
                      ·simp only [Act.put, List.setIfInBounds_toArray, List.set_cons_zero, List.set_cons_succ, i64_w, i32_w]
                       rfl
                      refine pure_ (i := 12) (N := some 178) (v := ?_) (a' := ?_) #[true, true, true, true, true, true, true, true, true, true, true, true, true, false, false, false, false, false, false, false, false, false, false, false] rfl rfl (any_of HT_.out (by kernel_rfl)) (fun _ _ _ h => h) (Or.inl ⟨by rfl, ?_⟩) ?_ ?_
                      rotate_left
                      ·intro w'
                       go_simp
                       with_reducible rfl
                      rotate_left
                      ·simp only [Act.put, List.setIfInBounds_toArray, List.set_cons_zero, List.set_cons_succ, i64_w, i32_w]
                       rfl
                      refine pure_ (i := 13) (N := some 179) (v := ?_) (a' := ?_) #[true, true, true, true, true, true, true, true, true, true, true, true, true, true, false, false, false, false, false, false, false, false, false, false] rfl rfl (any_of HT_.out (by kernel_rfl)) (fun _ _ _ h => h) (Or.inl ⟨by rfl, ?_⟩) ?_ ?_
                      rotate_left
                      ·intro w'
                       go_simp
                       with_reducible rfl
                      rotate_left
                      ·simp only [Act.put, List.setIfInBounds_toArray, List.set_cons_zero, List.set_cons_succ, i64_w, i32_w]
                       rfl
                      refine pure_ (i := 14) (N := some 180) (v := ?_) (a' := ?_) #[true, true, true, true, true, true, true, true, true, true, true, true, true, true, true, false, false, false, false, false, false, false, false, false] rfl rfl (any_of HT_.out (by kernel_rfl)) (fun _ _ _ h => h) (Or.inl ⟨by rfl, ?_⟩) ?_ ?_
                      rotate_left
                      ·intro w'
                       go_simp
                       with_reducible rfl
                      rotate_left
                      ·simp only [Act.put, List.setIfInBounds_toArray, List.set_cons_zero, List.set_cons_succ, i64_w, i32_w]
                       rfl
                      refine pure_ (i := 15) (N := some 181) (v := undef) (a' := ?_) #[true, true, true, true, true, true, true, true, true, true, true, true, true, true, true, true, false, false, false, false, false, false, false, false] rfl rfl (any_of HT_.out (by kernel_rfl)) (fun _ _ _ h => h) (Or.inr ⟨by rfl, rfl⟩) ?_ ?_
                      rotate_left
                      ·simp only [Act.put, List.setIfInBounds_toArray, List.set_cons_zero, List.set_cons_succ, i64_w, i32_w]
                       rfl
                      refine pure_ (i := 16) (N := some 182) (v := undef) (a' := ?_) #[true, true, true, true, true, true, true, true, true, true, true, true, true, true, true, true, true, false, false, false, false, false, false, false] rfl rfl (any_of HT_.out (by kernel_rfl)) (fun _ _ _ h => h) (Or.inr ⟨by rfl, rfl⟩) ?_ ?_
                      rotate_left
                      ·simp only [Act.put, List.setIfInBounds_toArray, List.set_cons_zero, List.set_cons_succ, i64_w, i32_w]
                       rfl
                      refine pure_ (i := 17) (N := some 183) (v := undef) (a' := ?_) #[true, true, true, true, true, true, true, true, true, true, true, true, true, true, true, true, true, true, false, false, false, false, false, false] rfl rfl (any_of HT_.out (by kernel_rfl)) (fun _ _ _ h => h) (Or.inr ⟨by rfl, rfl⟩) ?_ ?_
                      rotate_left
                      ·simp only [Act.put, List.setIfInBounds_toArray, List.set_cons_zero, List.set_cons_succ, i64_w, i32_w]
                       rfl
                      refine pure_ (i := 18) (N := some 184) (v := ?_) (a' := ?_) #[true, true, true, true, true, true, true, true, true, true, true, true, true, true, true, true, true, true, true, false, false, false, false, false] rfl rfl (any_of HT_.out (by kernel_rfl)) (fun _ _ _ h => h) (Or.inl ⟨by rfl, ?_⟩) ?_ ?_
                      rotate_left
                      ·intro w'
                       go_simp
                       with_reducible rfl
                      rotate_left
                      ·simp only [Act.put, List.setIfInBounds_toArray, List.set_cons_zero, List.set_cons_succ, i64_w, i32_w]
                       rfl
                      refine pure_ (i := 19) (N := some 185) (v := ?_) (a' := ?_) #[true, true, true, true, true, true, true, true, true, true, true, true, true, true, true, true, true, true, true, true, false, false, false, false] rfl rfl (any_of HT_.out (by kernel_rfl)) (fun _ _ _ h => h) (Or.inl ⟨by rfl, ?_⟩) ?_ ?_
                      rotate_left
                      ·intro w'
                       go_simp
                       with_reducible rfl
                      rotate_left
                      ·simp only [Act.put, List.setIfInBounds_toArray, List.set_cons_zero, List.set_cons_succ, i64_w, i32_w]
                       rfl
                      refine pure_ (i := 20) (N := some 186) (v := undef) (a' := ?_) #[true, true, true, true, true, true, true, true, true, true, true, true, true, true, true, true, true, true, true, true, true, false, false, false] rfl rfl (any_of HT_.out (by kernel_rfl)) (fun _ _ _ h => h) (Or.inr ⟨by rfl, rfl⟩) ?_ ?_
                      rotate_left
                      ·simp only [Act.put, List.setIfInBounds_toArray, List.set_cons_zero, List.set_cons_succ, i64_w, i32_w]
                       rfl
                      refine pure_ (i := 21) (N := some 187) (v := undef) (a' := ?_) #[true, true, true, true, true, true, true, true, true, true, true, true, true, true, true, true, true, true, true, true, true, true, false, false] rfl rfl (any_of HT_.out (by kernel_rfl)) (fun _ _ _ h => h) (Or.inr ⟨by rfl, rfl⟩) ?_ ?_
                      rotate_left
                      ·simp only [Act.put, List.setIfInBounds_toArray, List.set_cons_zero, List.set_cons_succ, i64_w, i32_w]
                       rfl
                      refine pure_ (i := 22) (N := some 188) (v := undef) (a' := ?_) #[true, true, true, true, true, true, true, true, true, true, true, true, true, true, true, true, true, true, true, true, true, true, true, false] rfl rfl (any_of HT_.out (by kernel_rfl)) (fun _ _ _ h => h) (Or.inr ⟨by rfl, rfl⟩) ?_ ?_
                      rotate_left
                      ·simp only [Act.put, List.setIfInBounds_toArray, List.set_cons_zero, List.set_cons_succ, i64_w, i32_w]
                       rfl
                      refine pure_ (i := 23) (N := some 189) (v := ?_) (a' := ?_) #[true, true, true, true, true, true, true, true, true, true, true, true, true, true, true, true, true, true, true, true, true, true, true, true] rfl rfl (any_of HT_.out (by kernel_rfl)) (fun _ _ _ h => h) (Or.inl ⟨by rfl, ?_⟩) ?_ ?_
                      rotate_left
                      ·intro w'
                       go_simp
                       with_reducible rfl
                      rotate_left
                      ·simp only [Act.put, List.setIfInBounds_toArray, List.set_cons_zero, List.set_cons_succ, i64_w, i32_w]
                       rfl
                      refine done_ (done_of HT_.out (by kernel_rfl)) ?_
                      try go_wp2
                      go_meet
                      case rel => exact ⟨_, (true), (by first | rfl | (simp; done) | (simp [*]; done)), H', ⟨by have := HK1.out; have := HJ23.out; have := HJ41.out; have := HK4.out; first | omega | exact Nat.le_refl _⟩, ⟨by (with_reducible repeat (first | apply Kd.R_alloc | apply Kd.R_drewN | apply Kd.R_drew)); exact HO_12.out⟩, ⟨by (with_reducible repeat (first | apply Kd.R_alloc | apply Kd.R_drewN | apply Kd.R_drew)); exact Kd.R_mono HO_159.out (fun _ hk => hk.1)⟩, ⟨by (with_reducible repeat (first | refine blk_drewN ?_ _ | refine blk_drew ?_ | refine blk_alloc ?_ _)); exact BK212.out⟩, ⟨by (with_reducible repeat (first | refine blk_drewN ?_ _ | refine blk_drew ?_ | refine blk_alloc ?_ _)); exact BK255.out⟩, ⟨bel_⟩⟩
                     ·rw [if_neg c70] at H
                      have c70b0 := decide_eq_false c70
                      clear c70
                      by_cases c75 : ((rd_T65 t251 x161_4).f1) < 1
                      ·rw [if_pos c75] at H
                       have c75b0 := decide_eq_true c75
                       clear c75
                       have H' := Aside0.mk H
                       clear H
                       try go_wp2
                       have n0_ : Aside0 (Kd.R kFld 70 ((w62.setCell ⟨gb255, 0, none⟩ (.int .u64 ((rd_T65 t251 x161_4).f0))).setCell ⟨gb255, 1, none⟩ (.int .i64 ((rd_T65 t251 x161_4).f1))) w.heap.size (fun _ => True) (.slice Ao55 x12_23.length co55) x12_23) := ⟨by (with_reducible repeat (first | apply Kd.R_alloc | apply Kd.R_drewN | apply Kd.R_drew)); exact Kd.R_mono (Kd.R_far (p := ⟨gb255, 1, none⟩) (Kd.R_far (p := ⟨gb255, 0, none⟩) (Kd.R_mono HO_12.out (fun k_ hk => (⟨hk, hk.2⟩ : _ ∧ k_ ≠ gb255))) (fun _ hk => hk.2) (.int .u64 ((rd_T65 t251 x161_4).f0))) (fun _ hk => hk.2) (.int .i64 ((rd_T65 t251 x161_4).f1))) (fun _ hk => trivial)⟩
                       have n1_ : Aside0 (Kd.R k65 65 ((w62.setCell ⟨gb255, 0, none⟩ (.int .u64 ((rd_T65 t251 x161_4).f0))).setCell ⟨gb255, 1, none⟩ (.int .i64 ((rd_T65 t251 x161_4).f1))) w.heap.size (fun k_ => k_ ≠ gb255) (.slice (some ad254) t251.length co57) t251) := ⟨by (with_reducible repeat (first | apply Kd.R_alloc | apply Kd.R_drewN | apply Kd.R_drew)); exact Kd.R_mono (Kd.R_far (p := ⟨gb255, 1, none⟩) (Kd.R_far (p := ⟨gb255, 0, none⟩) (Kd.R_mono HO_159.out (fun k_ hk => (⟨hk, hk.2⟩ : _ ∧ k_ ≠ gb255))) (fun _ hk => hk.2) (.int .u64 ((rd_T65 t251 x161_4).f0))) (fun _ hk => hk.2) (.int .i64 ((rd_T65 t251 x161_4).f1))) (fun _ hk => hk.1.2)⟩
                       have n2_ : Aside0 (((w62.setCell ⟨gb255, 0, none⟩ (.int .u64 ((rd_T65 t251 x161_4).f0))).setCell ⟨gb255, 1, none⟩ (.int .i64 ((rd_T65 t251 x161_4).f1))).heap[gb212]? = some (.cells #[.int .i64 a0_0, .int .i64 a0_1, .int .u64 a0_2, .slice A0_3 l0_3.length c0_3] 25 (0, 0))) := ⟨by (with_reducible repeat (first | refine blk_drewN ?_ _ | refine blk_drew ?_ | refine blk_alloc ?_ _)); refine blk_far ?_ NB212_255.out _; (with_reducible repeat (first | refine blk_drewN ?_ _ | refine blk_drew ?_ | refine blk_alloc ?_ _)); refine blk_far ?_ NB212_255.out _; (with_reducible repeat (first | refine blk_drewN ?_ _ | refine blk_drew ?_ | refine blk_alloc ?_ _)); exact BK212.out⟩
                       have n3_ : Aside0 (((w62.setCell ⟨gb255, 0, none⟩ (.int .u64 ((rd_T65 t251 x161_4).f0))).setCell ⟨gb255, 1, none⟩ (.int .i64 ((rd_T65 t251 x161_4).f1))).heap[gb255]? = some (.cells #[.int .u64 ((rd_T65 t251 x161_4).f0), .int .i64 ((rd_T65 t251 x161_4).f1)] 65 (0, 0))) := ⟨by (with_reducible repeat (first | refine blk_drewN ?_ _ | refine blk_drew ?_ | refine blk_alloc ?_ _)); refine blk_put (cs := #[.int .u64 ((rd_T65 t251 x161_4).f0), .int .i64 0]) ?_ 1 _ rfl; (with_reducible repeat (first | refine blk_drewN ?_ _ | refine blk_drew ?_ | refine blk_alloc ?_ _)); refine blk_put (cs := #[.int .u64 0, .int .i64 0]) ?_ 0 _ rfl; (with_reducible repeat (first | refine blk_drewN ?_ _ | refine blk_drew ?_ | refine blk_alloc ?_ _)); exact BK255.out⟩
                       have n4_ : Aside0 (Below w.heap.size w ((w62.setCell ⟨gb255, 0, none⟩ (.int .u64 ((rd_T65 t251 x161_4).f0))).setCell ⟨gb255, 1, none⟩ (.int .i64 ((rd_T65 t251 x161_4).f1)))) := ⟨bel_⟩
                       (try clear HO_12)
                       (try clear HO_159)
                       (try clear BK212)
                       (try clear BK255)
                       (try clear HB)
                       generalize ((w62.setCell ⟨gb255, 0, none⟩ (.int .u64 ((rd_T65 t251 x161_4).f0))).setCell ⟨gb255, 1, none⟩ (.int .i64 ((rd_T65 t251 x161_4).f1))) = w76 at n0_ n1_ n2_ n3_ n4_ ⊢
                       have HO_12 := n0_
                       have HO_159 := n1_
                       have BK212 := n2_
                       have BK255 := n3_
                       have HB := n4_
                       clear n0_ n1_ n2_ n3_ n4_
                       have n0_ := Aside0.mk (Kd.R_drew HO_12.out)
                       have n1_ := Aside0.mk (Kd.R_drew HO_159.out)
                       have n2_ := Aside0.mk (blk_drew BK212.out)
                       have n3_ := Aside0.mk (blk_drew BK255.out)
                       have n4_ := Aside0.mk (below_drew1 HB.out)
                       clear HO_12
                       clear HO_159
                       clear BK212
                       clear BK255
                       clear HB
                       have HO_12 := n0_
                       have HO_159 := n1_
                       have BK212 := n2_
                       have BK255 := n3_
                       have HB := n4_
                       clear n0_ n1_ n2_ n3_ n4_
                       refine start_ (n := 24) (S := fun w' => w'.cell? ⟨gb255, 0, none⟩ = some (.int .u64 ((rd_T65 t251 x161_4).f0)) ∧ w'.cell? ⟨gb255, 1, none⟩ = some (.int .i64 ((rd_T65 t251 x161_4).f1))) (ds := []) #[false, false, false, false, false, false, false, false, false, false, false, false, false, false, false, false, false, false, false, false, false, false, false, false] (by kernel_rfl) rfl rfl ⟨(blk_cell BK255.out 0).trans rfl, (blk_cell BK255.out 1).trans rfl⟩ (fun hHeld => ?_); refine with_tabW epicyclelaw06_FieldMakes.tab29 epicyclelaw06_FieldMakes.bits29 (fun HT_ HW_ => ?_)
                       generalize w76.drew = w77 at HO_12 HO_159 BK212 BK255 HB hHeld ⊢
                       refine pure_ (i := 0) (N := some 166) (v := ?_) (a' := ?_) #[true, false, false, false, false, false, false, false, false, false, false, false, false, false, false, false, false, false, false, false, false, false, false, false] rfl rfl (any_of HT_.out (by kernel_rfl)) (fun _ _ _ h => h) (Or.inl ⟨by rfl, ?_⟩) ?_ ?_
                       rotate_left
                       ·intro w'
                        go_simp
                        with_reducible rfl
                       rotate_left
                       ·simp only [Act.put, List.setIfInBounds_toArray, List.set_cons_zero, List.set_cons_succ, i64_w, i32_w]
                        rfl
                       refine pure_ (i := 1) (N := some 167) (v := ?_) (a' := ?_) #[true, true, false, false, false, false, false, false, false, false, false, false, false, false, false, false, false, false, false, false, false, false, false, false] rfl rfl (any_of HT_.out (by kernel_rfl)) (fun _ _ _ h => h) (Or.inl ⟨by rfl, ?_⟩) ?_ ?_
                       rotate_left
                       ·intro w'
                        go_simp
                        with_reducible rfl
                       rotate_left
                       ·simp only [Act.put, List.setIfInBounds_toArray, List.set_cons_zero, List.set_cons_succ, i64_w, i32_w]
                        rfl
                       refine pure_ (i := 2) (N := some 168) (v := ?_) (a' := ?_) #[true, true, true, false, false, false, false, false, false, false, false, false, false, false, false, false, false, false, false, false, false, false, false, false] rfl rfl (any_of HT_.out (by kernel_rfl)) (fun _ _ _ h => h) (Or.inl ⟨by rfl, ?_⟩) ?_ ?_
                       rotate_left
                       ·intro w'
                        go_simp
                        with_reducible rfl
                       rotate_left
                       ·simp only [Act.put, List.setIfInBounds_toArray, List.set_cons_zero, List.set_cons_succ, i64_w, i32_w]
                        rfl
                       refine pure_ (i := 3) (N := some 169) (v := ?_) (a' := ?_) #[true, true, true, true, false, false, false, false, false, false, false, false, false, false, false, false, false, false, false, false, false, false, false, false] rfl rfl (any_of HT_.out (by kernel_rfl)) (fun _ _ _ h => h) (Or.inl ⟨by rfl, ?_⟩) ?_ ?_
                       rotate_left
                       ·intro w'
                        go_simp
                        with_reducible rfl
                       rotate_left
                       ·simp only [Act.put, List.setIfInBounds_toArray, List.set_cons_zero, List.set_cons_succ, i64_w, i32_w]
                        rfl
                       refine pure_ (i := 5) (N := some 171) (v := ?_) (a' := ?_) #[true, true, true, true, false, true, false, false, false, false, false, false, false, false, false, false, false, false, false, false, false, false, false, false] rfl rfl (any_of HT_.out (by kernel_rfl)) (fun _ _ _ h => h) (Or.inl ⟨by rfl, ?_⟩) ?_ ?_
                       rotate_left
                       ·intro w'
                        go_simp
                        with_reducible rfl
                       rotate_left
                       ·simp only [Act.put, List.setIfInBounds_toArray, List.set_cons_zero, List.set_cons_succ, i64_w, i32_w]
                        rfl
                       refine pure_ (i := 6) (N := some 172) (v := ?_) (a' := ?_) #[true, true, true, true, false, true, true, false, false, false, false, false, false, false, false, false, false, false, false, false, false, false, false, false] rfl rfl (any_of HT_.out (by kernel_rfl)) (fun _ _ _ h => h) (Or.inl ⟨by rfl, ?_⟩) ?_ ?_
                       rotate_left
                       ·intro w'
                        go_simp
                        with_reducible rfl
                       rotate_left
                       ·simp only [Act.put, List.setIfInBounds_toArray, List.set_cons_zero, List.set_cons_succ, i64_w, i32_w]
                        rfl
                       refine pure_ (i := 10) (N := some 176) (v := ?_) (a' := ?_) #[true, true, true, true, false, true, true, false, false, false, true, false, false, false, false, false, false, false, false, false, false, false, false, false] rfl rfl (any_of HT_.out (by kernel_rfl)) (fun _ _ _ h => h) (Or.inl ⟨by rfl, ?_⟩) ?_ ?_
                       rotate_left
                       ·intro w'
                        go_simp
                        with_reducible rfl
                       rotate_left
                       ·simp only [Act.put, List.setIfInBounds_toArray, List.set_cons_zero, List.set_cons_succ, i64_w, i32_w]
                        rfl
                       refine take_ (i := 11) (N := some 177) (v := ?_) (a' := ?_) #[true, true, true, true, false, true, true, false, false, false, true, true, false, false, false, false, false, false, false, false, false, false, false, false] rfl rfl (take_ofW HT_.out HW_.out (by kernel_rfl)) (fun _ _ _ h => h) (Or.inl ⟨by rfl, ?_⟩) hHeld ?_ ?_
                       rotate_left
                       ·rintro w' ⟨s0, s1⟩
                        go_simp
                        with_reducible rfl
                       rotate_left
                       ·simp only [Act.put, List.setIfInBounds_toArray, List.set_cons_zero, List.set_cons_succ, i64_w, i32_w]
                        rfl
                       refine one_ (i := 4) (N := some 170) #[true, true, true, true, true, true, true, false, false, false, true, true, false, false, false, false, false, false, false, false, false, false, false, false] rfl rfl (one_of HT_.out (by kernel_rfl)) (by decide) (fun K hK => ?_)
                       refine goes_ Try.func35 (by kernel_rfl) rfl #[toPtr (.slice Ao55 x12_23.length co55)] (by rfl) rfl rfl (by (try simp only [List.map_toArray, List.map_cons, List.map_nil]); first | done | (rw [hT_HO_12] <;> rfl) | rfl | (simp only [List.length_drop, List.length_take]; rfl)) ?_
                       with_reducible refine (field_Field_Factors.calls _ _ x12_23 t256 _ ?side1 ?side2 A66.out).mono ?_
                       (case side1 => repeat (first | exact (Kd.R_reads' HO_12.out).2.2 | (with_reducible refine Kd.C_alloc ?_ _) | (with_reducible refine Kd.C_drewN ?_ _) | (with_reducible refine Kd.C_drew ?_)))
                       (case side2 => exact (Kd.R_reads' HO_12.out).2.1)
                       rintro e w78 ⟨v257, rfl, ho0, hb⟩
                       refine ⟨_, rfl, ?_⟩
                       have n0_ := Aside0.mk (Kd.R_below (by (with_reducible repeat (first | apply Kd.R_alloc | apply Kd.R_drewN | apply Kd.R_drew)); exact HO_12.out) hb)
                       have n1_ := Aside0.mk (Kd.R_elder' (by (with_reducible repeat (first | apply Kd.R_alloc | apply Kd.R_drewN | apply Kd.R_drew)); exact HO_159.out) (Kd.R_base ho0) hb)
                       have n2_ := Aside0.mk (Kd.R_lower (Kd.R_newB (Kd.R_new' ho0 (Kd.R_lt (by (with_reducible repeat (first | apply Kd.R_alloc | apply Kd.R_drewN | apply Kd.R_drew)); exact HO_159.out))) (g := gb255) (o := .cells #[.int .u64 ((rd_T65 t251 x161_4).f0), .int .i64 ((rd_T65 t251 x161_4).f1)] 65 (0, 0)) (by (with_reducible repeat (first | refine blk_drewN ?_ _ | refine blk_drew ?_ | refine blk_alloc ?_ _)); exact BK255.out)) (below_size bel_))
                       have n3_ := Aside0.mk (blk_below (g := gb212) (o := .cells #[.int .i64 a0_0, .int .i64 a0_1, .int .u64 a0_2, .slice A0_3 l0_3.length c0_3] 25 (0, 0)) (by (with_reducible repeat (first | refine blk_drewN ?_ _ | refine blk_drew ?_ | refine blk_alloc ?_ _)); exact BK212.out) hb)
                       have n4_ := Aside0.mk (blk_below (g := gb255) (o := .cells #[.int .u64 ((rd_T65 t251 x161_4).f0), .int .i64 ((rd_T65 t251 x161_4).f1)] 65 (0, 0)) (by (with_reducible repeat (first | refine blk_drewN ?_ _ | refine blk_drew ?_ | refine blk_alloc ?_ _)); exact BK255.out) hb)
                       have n5_ := Aside0.mk (below_step bel_ hb)
                       clear HO_12
                       clear HO_159
                       clear BK212
                       clear BK255
                       clear HB
                       have HO_12 := n0_
                       have HO_159 := n1_
                       have HO258 := n2_
                       have BK212 := n3_
                       have BK255 := n4_
                       have HB := n5_
                       clear n0_ n1_ n2_ n3_ n4_ n5_
                       (try clear hb)
                       (try clear hb2)
                       (try clear hk)
                       (try clear hi)
                       (try clear ho0)
                       obtain ⟨Ao79, co79, eo79⟩ := Kd.R_slice HO258.out
                       (first | subst eo79 | (injection eo79 with f1_ f2_ f3_; have f4_ := f1_.symm; have f5_ := f3_.symm; clear f1_ f2_ f3_; subst f4_; subst f5_))
                       have p259 : 0 ≤ ((ji67) : Int) := of_decide_eq_true (by assumption)
                       have q259 : (ji67) < (t256.length : Int) := of_decide_eq_true (by assumption)
                       obtain ⟨ad259, e259, hx259_0, hx259_1⟩ := at_T65 (Kd.R_reads' HO258.out).2.2 (ji67) p259 q259
                       cases e259
                       replace p259 := eq_true p259
                       replace q259 := eq_true q259
                       refine hK.out _ _ ⟨(blk_cell BK255.out 0).trans rfl, (blk_cell BK255.out 1).trans rfl⟩ (fun _ => swapS (S' := fun w' => w'.cell? ⟨gb255, 0, none⟩ = some (.int .u64 ((rd_T65 t251 x161_4).f0)) ∧ w'.cell? ⟨gb255, 1, none⟩ = some (.int .i64 ((rd_T65 t251 x161_4).f1)) ∧ w'.cell? (ad259.add (((ji67)).toNat * 2)) = some (.int .u64 ((rd_T65 t256 (ji67)).f0)) ∧ w'.cell? ⟨(ad259.add (((ji67)).toNat * 2)).block, (ad259.add (((ji67)).toNat * 2)).off + 1, none⟩ = some (.int .i64 ((rd_T65 t256 (ji67)).f1))) (fun _ h => ⟨h.1, h.2.1⟩) _ _ _ _ ⟨(blk_cell BK255.out 0).trans rfl, (blk_cell BK255.out 1).trans rfl, hx259_0, hx259_1⟩ (fun hHeld => ?_))
                       clear hK K
                       refine norm_ (a' := ?_) ?_ ?_
                       rotate_left
                       ·show Act.put _ (some 170) _ = _
                        simp only [Act.put, List.setIfInBounds_toArray, List.set_cons_zero, List.set_cons_succ, i64_w, i32_w]
                        rfl
                       refine pure_ (i := 7) (N := some 173) (v := ?_) (a' := ?_) #[true, true, true, true, true, true, true, true, false, false, true, true, false, false, false, false, false, false, false, false, false, false, false, false] rfl rfl (any_of HT_.out (by kernel_rfl)) (fun _ _ _ h => h) (Or.inl ⟨by rfl, ?_⟩) ?_ ?_
                       rotate_left
                       ·intro w'
                        go_simp
                        with_reducible rfl
                       rotate_left
                       ·simp only [Act.put, List.setIfInBounds_toArray, List.set_cons_zero, List.set_cons_succ, i64_w, i32_w]
                        rfl
                       refine pure_ (i := 8) (N := some 174) (v := ?_) (a' := ?_) #[true, true, true, true, true, true, true, true, true, false, true, true, false, false, false, false, false, false, false, false, false, false, false, false] rfl rfl (any_of HT_.out (by kernel_rfl)) (fun _ _ _ h => h) (Or.inl ⟨by rfl, ?_⟩) ?_ ?_
                       rotate_left
                       ·intro w'
                        go_simp
                        with_reducible rfl
                       rotate_left
                       ·simp only [Act.put, List.setIfInBounds_toArray, List.set_cons_zero, List.set_cons_succ, i64_w, i32_w]
                        rfl
                       refine take_ (i := 9) (N := some 175) (v := ?_) (a' := ?_) #[true, true, true, true, true, true, true, true, true, true, true, true, false, false, false, false, false, false, false, false, false, false, false, false] rfl rfl (take_ofW HT_.out HW_.out (by kernel_rfl)) (fun _ _ _ h => h) (Or.inl ⟨by rfl, ?_⟩) hHeld ?_ ?_
                       rotate_left
                       ·rintro w' ⟨s0, s1, s2, s3⟩
                        go_simp
                        with_reducible rfl
                       rotate_left
                       ·simp only [Act.put, List.setIfInBounds_toArray, List.set_cons_zero, List.set_cons_succ, i64_w, i32_w]
                        rfl
                       refine pure_ (i := 12) (N := some 178) (v := ?_) (a' := ?_) #[true, true, true, true, true, true, true, true, true, true, true, true, true, false, false, false, false, false, false, false, false, false, false, false] rfl rfl (any_of HT_.out (by kernel_rfl)) (fun _ _ _ h => h) (Or.inl ⟨by rfl, ?_⟩) ?_ ?_
                       rotate_left
                       ·intro w'
                        go_simp
                        with_reducible rfl
                       rotate_left
                       ·simp only [Act.put, List.setIfInBounds_toArray, List.set_cons_zero, List.set_cons_succ, i64_w, i32_w]
                        rfl
                       refine pure_ (i := 13) (N := some 179) (v := ?_) (a' := ?_) #[true, true, true, true, true, true, true, true, true, true, true, true, true, true, false, false, false, false, false, false, false, false, false, false] rfl rfl (any_of HT_.out (by kernel_rfl)) (fun _ _ _ h => h) (Or.inl ⟨by rfl, ?_⟩) ?_ ?_
                       rotate_left
                       ·intro w'
                        go_simp
                        with_reducible rfl
                       rotate_left
                       ·simp only [Act.put, List.setIfInBounds_toArray, List.set_cons_zero, List.set_cons_succ, i64_w, i32_w]
                        rfl
                       refine pure_ (i := 14) (N := some 180) (v := ?_) (a' := ?_) #[true, true, true, true, true, true, true, true, true, true, true, true, true, true, true, false, false, false, false, false, false, false, false, false] rfl rfl (any_of HT_.out (by kernel_rfl)) (fun _ _ _ h => h) (Or.inl ⟨by rfl, ?_⟩) ?_ ?_
                       rotate_left
                       ·intro w'
                        go_simp
                        with_reducible rfl
                       rotate_left
                       ·simp only [Act.put, List.setIfInBounds_toArray, List.set_cons_zero, List.set_cons_succ, i64_w, i32_w]
                        rfl
                       refine pure_ (i := 15) (N := some 181) (v := ?_) (a' := ?_) #[true, true, true, true, true, true, true, true, true, true, true, true, true, true, true, true, false, false, false, false, false, false, false, false] rfl rfl (any_of HT_.out (by kernel_rfl)) (fun _ _ _ h => h) (Or.inl ⟨by rfl, ?_⟩) ?_ ?_
                       rotate_left
                       ·intro w'
                        go_simp
                        with_reducible rfl
                       rotate_left
                       ·simp only [Act.put, List.setIfInBounds_toArray, List.set_cons_zero, List.set_cons_succ, i64_w, i32_w]
                        rfl
                       refine take_ (i := 16) (N := some 182) (v := ?_) (a' := ?_) #[true, true, true, true, true, true, true, true, true, true, true, true, true, true, true, true, true, false, false, false, false, false, false, false] rfl rfl (take_ofW HT_.out HW_.out (by kernel_rfl)) (fun _ _ _ h => h) (Or.inl ⟨by rfl, ?_⟩) hHeld ?_ ?_
                       rotate_left
                       ·rintro w' ⟨s0, s1, s2, s3⟩
                        go_simp
                        with_reducible rfl
                       rotate_left
                       ·simp only [Act.put, List.setIfInBounds_toArray, List.set_cons_zero, List.set_cons_succ, i64_w, i32_w]
                        rfl
                       refine pure_ (i := 17) (N := some 183) (v := ?_) (a' := ?_) #[true, true, true, true, true, true, true, true, true, true, true, true, true, true, true, true, true, true, false, false, false, false, false, false] rfl rfl (any_of HT_.out (by kernel_rfl)) (fun _ _ _ h => h) (Or.inl ⟨by rfl, ?_⟩) ?_ ?_
                       rotate_left
                       ·intro w'
                        go_simp
                        with_reducible rfl
                       rotate_left
                       ·simp only [Act.put, List.setIfInBounds_toArray, List.set_cons_zero, List.set_cons_succ, i64_w, i32_w]
                        rfl
                       refine pure_ (i := 18) (N := some 184) (v := ?_) (a' := ?_) #[true, true, true, true, true, true, true, true, true, true, true, true, true, true, true, true, true, true, true, false, false, false, false, false] rfl rfl (any_of HT_.out (by kernel_rfl)) (fun _ _ _ h => h) (Or.inl ⟨by rfl, ?_⟩) ?_ ?_
                       rotate_left
                       ·intro w'
                        go_simp
                        with_reducible rfl
                       rotate_left
                       ·simp only [Act.put, List.setIfInBounds_toArray, List.set_cons_zero, List.set_cons_succ, i64_w, i32_w]
                        rfl
                       refine pure_ (i := 19) (N := some 185) (v := ?_) (a' := ?_) #[true, true, true, true, true, true, true, true, true, true, true, true, true, true, true, true, true, true, true, true, false, false, false, false] rfl rfl (any_of HT_.out (by kernel_rfl)) (fun _ _ _ h => h) (Or.inl ⟨by rfl, ?_⟩) ?_ ?_
                       rotate_left
                       ·intro w'
                        go_simp
                        with_reducible rfl
                       rotate_left
                       ·simp only [Act.put, List.setIfInBounds_toArray, List.set_cons_zero, List.set_cons_succ, i64_w, i32_w]
                        rfl
                       refine pure_ (i := 20) (N := some 186) (v := undef) (a' := ?_) #[true, true, true, true, true, true, true, true, true, true, true, true, true, true, true, true, true, true, true, true, true, false, false, false] rfl rfl (any_of HT_.out (by kernel_rfl)) (fun _ _ _ h => h) (Or.inr ⟨by rfl, rfl⟩) ?_ ?_
                       rotate_left
                       ·simp only [Act.put, List.setIfInBounds_toArray, List.set_cons_zero, List.set_cons_succ, i64_w, i32_w]
                        rfl
                       refine pure_ (i := 21) (N := some 187) (v := undef) (a' := ?_) #[true, true, true, true, true, true, true, true, true, true, true, true, true, true, true, true, true, true, true, true, true, true, false, false] rfl rfl (any_of HT_.out (by kernel_rfl)) (fun _ _ _ h => h) (Or.inr ⟨by rfl, rfl⟩) ?_ ?_
                       rotate_left
                       ·simp only [Act.put, List.setIfInBounds_toArray, List.set_cons_zero, List.set_cons_succ, i64_w, i32_w]
                        rfl
                       refine pure_ (i := 22) (N := some 188) (v := undef) (a' := ?_) #[true, true, true, true, true, true, true, true, true, true, true, true, true, true, true, true, true, true, true, true, true, true, true, false] rfl rfl (any_of HT_.out (by kernel_rfl)) (fun _ _ _ h => h) (Or.inr ⟨by rfl, rfl⟩) ?_ ?_
                       rotate_left
                       ·simp only [Act.put, List.setIfInBounds_toArray, List.set_cons_zero, List.set_cons_succ, i64_w, i32_w]
                        rfl
                       refine pure_ (i := 23) (N := some 189) (v := ?_) (a' := ?_) #[true, true, true, true, true, true, true, true, true, true, true, true, true, true, true, true, true, true, true, true, true, true, true, true] rfl rfl (any_of HT_.out (by kernel_rfl)) (fun _ _ _ h => h) (Or.inl ⟨by rfl, ?_⟩) ?_ ?_
                       rotate_left
                       ·intro w'
                        go_simp
                        with_reducible rfl
                       rotate_left
                       ·simp only [Act.put, List.setIfInBounds_toArray, List.set_cons_zero, List.set_cons_succ, i64_w, i32_w]
                        rfl
                       refine done_ (done_of HT_.out (by kernel_rfl)) ?_
                       try go_wp2
                       go_meet
                       case rel => exact ⟨_, (true), (by first | rfl | (simp; done) | (simp [*]; done)), H', ⟨by have := HK1.out; have := HJ23.out; have := HJ41.out; have := HK4.out; first | omega | exact Nat.le_refl _⟩, ⟨by (with_reducible repeat (first | apply Kd.R_alloc | apply Kd.R_drewN | apply Kd.R_drew)); exact HO_12.out⟩, ⟨by (with_reducible repeat (first | apply Kd.R_alloc | apply Kd.R_drewN | apply Kd.R_drew)); exact Kd.R_mono HO_159.out (fun _ hk => hk.1)⟩, ⟨by (with_reducible repeat (first | refine blk_drewN ?_ _ | refine blk_drew ?_ | refine blk_alloc ?_ _)); exact BK212.out⟩, ⟨by (with_reducible repeat (first | refine blk_drewN ?_ _ | refine blk_drew ?_ | refine blk_alloc ?_ _)); exact BK255.out⟩, ⟨bel_⟩⟩
                      ·rw [if_neg c75] at H
                       have c75b0 := decide_eq_false c75
                       clear c75
                       have H' := Aside0.mk H
                       clear H
                       try go_wp2
                       have n0_ : Aside0 (Kd.R kFld 70 ((w62.setCell ⟨gb255, 0, none⟩ (.int .u64 ((rd_T65 t251 x161_4).f0))).setCell ⟨gb255, 1, none⟩ (.int .i64 ((rd_T65 t251 x161_4).f1))) w.heap.size (fun _ => True) (.slice Ao55 x12_23.length co55) x12_23) := ⟨by (with_reducible repeat (first | apply Kd.R_alloc | apply Kd.R_drewN | apply Kd.R_drew)); exact Kd.R_mono (Kd.R_far (p := ⟨gb255, 1, none⟩) (Kd.R_far (p := ⟨gb255, 0, none⟩) (Kd.R_mono HO_12.out (fun k_ hk => (⟨hk, hk.2⟩ : _ ∧ k_ ≠ gb255))) (fun _ hk => hk.2) (.int .u64 ((rd_T65 t251 x161_4).f0))) (fun _ hk => hk.2) (.int .i64 ((rd_T65 t251 x161_4).f1))) (fun _ hk => trivial)⟩
                       have n1_ : Aside0 (Kd.R k65 65 ((w62.setCell ⟨gb255, 0, none⟩ (.int .u64 ((rd_T65 t251 x161_4).f0))).setCell ⟨gb255, 1, none⟩ (.int .i64 ((rd_T65 t251 x161_4).f1))) w.heap.size (fun k_ => k_ ≠ gb255) (.slice (some ad254) t251.length co57) t251) := ⟨by (with_reducible repeat (first | apply Kd.R_alloc | apply Kd.R_drewN | apply Kd.R_drew)); exact Kd.R_mono (Kd.R_far (p := ⟨gb255, 1, none⟩) (Kd.R_far (p := ⟨gb255, 0, none⟩) (Kd.R_mono HO_159.out (fun k_ hk => (⟨hk, hk.2⟩ : _ ∧ k_ ≠ gb255))) (fun _ hk => hk.2) (.int .u64 ((rd_T65 t251 x161_4).f0))) (fun _ hk => hk.2) (.int .i64 ((rd_T65 t251 x161_4).f1))) (fun _ hk => hk.1.2)⟩
                       have n2_ : Aside0 (((w62.setCell ⟨gb255, 0, none⟩ (.int .u64 ((rd_T65 t251 x161_4).f0))).setCell ⟨gb255, 1, none⟩ (.int .i64 ((rd_T65 t251 x161_4).f1))).heap[gb212]? = some (.cells #[.int .i64 a0_0, .int .i64 a0_1, .int .u64 a0_2, .slice A0_3 l0_3.length c0_3] 25 (0, 0))) := ⟨by (with_reducible repeat (first | refine blk_drewN ?_ _ | refine blk_drew ?_ | refine blk_alloc ?_ _)); refine blk_far ?_ NB212_255.out _; (with_reducible repeat (first | refine blk_drewN ?_ _ | refine blk_drew ?_ | refine blk_alloc ?_ _)); refine blk_far ?_ NB212_255.out _; (with_reducible repeat (first | refine blk_drewN ?_ _ | refine blk_drew ?_ | refine blk_alloc ?_ _)); exact BK212.out⟩
                       have n3_ : Aside0 (((w62.setCell ⟨gb255, 0, none⟩ (.int .u64 ((rd_T65 t251 x161_4).f0))).setCell ⟨gb255, 1, none⟩ (.int .i64 ((rd_T65 t251 x161_4).f1))).heap[gb255]? = some (.cells #[.int .u64 ((rd_T65 t251 x161_4).f0), .int .i64 ((rd_T65 t251 x161_4).f1)] 65 (0, 0))) := ⟨by (with_reducible repeat (first | refine blk_drewN ?_ _ | refine blk_drew ?_ | refine blk_alloc ?_ _)); refine blk_put (cs := #[.int .u64 ((rd_T65 t251 x161_4).f0), .int .i64 0]) ?_ 1 _ rfl; (with_reducible repeat (first | refine blk_drewN ?_ _ | refine blk_drew ?_ | refine blk_alloc ?_ _)); refine blk_put (cs := #[.int .u64 0, .int .i64 0]) ?_ 0 _ rfl; (with_reducible repeat (first | refine blk_drewN ?_ _ | refine blk_drew ?_ | refine blk_alloc ?_ _)); exact BK255.out⟩
                       have n4_ : Aside0 (Below w.heap.size w ((w62.setCell ⟨gb255, 0, none⟩ (.int .u64 ((rd_T65 t251 x161_4).f0))).setCell ⟨gb255, 1, none⟩ (.int .i64 ((rd_T65 t251 x161_4).f1)))) := ⟨bel_⟩
                       (try clear HO_12)
                       (try clear HO_159)
                       (try clear BK212)
                       (try clear BK255)
                       (try clear HB)
                       generalize ((w62.setCell ⟨gb255, 0, none⟩ (.int .u64 ((rd_T65 t251 x161_4).f0))).setCell ⟨gb255, 1, none⟩ (.int .i64 ((rd_T65 t251 x161_4).f1))) = w80 at n0_ n1_ n2_ n3_ n4_ ⊢
                       have HO_12 := n0_
                       have HO_159 := n1_
                       have BK212 := n2_
                       have BK255 := n3_
                       have HB := n4_
                       clear n0_ n1_ n2_ n3_ n4_
                       have n0_ := Aside0.mk (Kd.R_drew HO_12.out)
                       have n1_ := Aside0.mk (Kd.R_drew HO_159.out)
                       have n2_ := Aside0.mk (blk_drew BK212.out)
                       have n3_ := Aside0.mk (blk_drew BK255.out)
                       have n4_ := Aside0.mk (below_drew1 HB.out)
                       clear HO_12
                       clear HO_159
                       clear BK212
                       clear BK255
                       clear HB
                       have HO_12 := n0_
                       have HO_159 := n1_
                       have BK212 := n2_
                       have BK255 := n3_
                       have HB := n4_
                       clear n0_ n1_ n2_ n3_ n4_
                       refine start_ (n := 24) (S := fun w' => w'.cell? ⟨gb255, 0, none⟩ = some (.int .u64 ((rd_T65 t251 x161_4).f0)) ∧ w'.cell? ⟨gb255, 1, none⟩ = some (.int .i64 ((rd_T65 t251 x161_4).f1))) (ds := []) #[false, false, false, false, false, false, false, false, false, false, false, false, false, false, false, false, false, false, false, false, false, false, false, false] (by kernel_rfl) rfl rfl ⟨(blk_cell BK255.out 0).trans rfl, (blk_cell BK255.out 1).trans rfl⟩ (fun hHeld => ?_); refine with_tabW epicyclelaw06_FieldMakes.tab29 epicyclelaw06_FieldMakes.bits29 (fun HT_ HW_ => ?_)
                       generalize w80.drew = w81 at HO_12 HO_159 BK212 BK255 HB hHeld ⊢
                       refine pure_ (i := 0) (N := some 166) (v := ?_) (a' := ?_) #[true, false, false, false, false, false, false, false, false, false, false, false, false, false, false, false, false, false, false, false, false, false, false, false] rfl rfl (any_of HT_.out (by kernel_rfl)) (fun _ _ _ h => h) (Or.inl ⟨by rfl, ?_⟩) ?_ ?_
                       rotate_left
                       ·intro w'
                        go_simp
                        with_reducible rfl
                       rotate_left
                       ·simp only [Act.put, List.setIfInBounds_toArray, List.set_cons_zero, List.set_cons_succ, i64_w, i32_w]
                        rfl
                       refine pure_ (i := 1) (N := some 167) (v := ?_) (a' := ?_) #[true, true, false, false, false, false, false, false, false, false, false, false, false, false, false, false, false, false, false, false, false, false, false, false] rfl rfl (any_of HT_.out (by kernel_rfl)) (fun _ _ _ h => h) (Or.inl ⟨by rfl, ?_⟩) ?_ ?_
                       rotate_left
                       ·intro w'
                        go_simp
                        with_reducible rfl
                       rotate_left
                       ·simp only [Act.put, List.setIfInBounds_toArray, List.set_cons_zero, List.set_cons_succ, i64_w, i32_w]
                        rfl
                       refine pure_ (i := 2) (N := some 168) (v := ?_) (a' := ?_) #[true, true, true, false, false, false, false, false, false, false, false, false, false, false, false, false, false, false, false, false, false, false, false, false] rfl rfl (any_of HT_.out (by kernel_rfl)) (fun _ _ _ h => h) (Or.inl ⟨by rfl, ?_⟩) ?_ ?_
                       rotate_left
                       ·intro w'
                        go_simp
                        with_reducible rfl
                       rotate_left
                       ·simp only [Act.put, List.setIfInBounds_toArray, List.set_cons_zero, List.set_cons_succ, i64_w, i32_w]
                        rfl
                       refine pure_ (i := 3) (N := some 169) (v := ?_) (a' := ?_) #[true, true, true, true, false, false, false, false, false, false, false, false, false, false, false, false, false, false, false, false, false, false, false, false] rfl rfl (any_of HT_.out (by kernel_rfl)) (fun _ _ _ h => h) (Or.inl ⟨by rfl, ?_⟩) ?_ ?_
                       rotate_left
                       ·intro w'
                        go_simp
                        with_reducible rfl
                       rotate_left
                       ·simp only [Act.put, List.setIfInBounds_toArray, List.set_cons_zero, List.set_cons_succ, i64_w, i32_w]
                        rfl
                       refine pure_ (i := 5) (N := some 171) (v := ?_) (a' := ?_) #[true, true, true, true, false, true, false, false, false, false, false, false, false, false, false, false, false, false, false, false, false, false, false, false] rfl rfl (any_of HT_.out (by kernel_rfl)) (fun _ _ _ h => h) (Or.inl ⟨by rfl, ?_⟩) ?_ ?_
                       rotate_left
                       ·intro w'
                        go_simp
                        with_reducible rfl
                       rotate_left
                       ·simp only [Act.put, List.setIfInBounds_toArray, List.set_cons_zero, List.set_cons_succ, i64_w, i32_w]
                        rfl
                       refine pure_ (i := 6) (N := some 172) (v := ?_) (a' := ?_) #[true, true, true, true, false, true, true, false, false, false, false, false, false, false, false, false, false, false, false, false, false, false, false, false] rfl rfl (any_of HT_.out (by kernel_rfl)) (fun _ _ _ h => h) (Or.inl ⟨by rfl, ?_⟩) ?_ ?_
                       rotate_left
                       ·intro w'
                        go_simp
                        with_reducible rfl
                       rotate_left
                       ·simp only [Act.put, List.setIfInBounds_toArray, List.set_cons_zero, List.set_cons_succ, i64_w, i32_w]
                        rfl
                       refine pure_ (i := 10) (N := some 176) (v := ?_) (a' := ?_) #[true, true, true, true, false, true, true, false, false, false, true, false, false, false, false, false, false, false, false, false, false, false, false, false] rfl rfl (any_of HT_.out (by kernel_rfl)) (fun _ _ _ h => h) (Or.inl ⟨by rfl, ?_⟩) ?_ ?_
                       rotate_left
                       ·intro w'
                        go_simp
                        with_reducible rfl
                       rotate_left
                       ·simp only [Act.put, List.setIfInBounds_toArray, List.set_cons_zero, List.set_cons_succ, i64_w, i32_w]
                        rfl
                       refine take_ (i := 11) (N := some 177) (v := ?_) (a' := ?_) #[true, true, true, true, false, true, true, false, false, false, true, true, false, false, false, false, false, false, false, false, false, false, false, false] rfl rfl (take_ofW HT_.out HW_.out (by kernel_rfl)) (fun _ _ _ h => h) (Or.inl ⟨by rfl, ?_⟩) hHeld ?_ ?_
                       rotate_left
                       ·rintro w' ⟨s0, s1⟩
                        go_simp
                        with_reducible rfl
                       rotate_left
                       ·simp only [Act.put, List.setIfInBounds_toArray, List.set_cons_zero, List.set_cons_succ, i64_w, i32_w]
                        rfl
                       refine one_ (i := 4) (N := some 170) #[true, true, true, true, true, true, true, false, false, false, true, true, false, false, false, false, false, false, false, false, false, false, false, false] rfl rfl (one_of HT_.out (by kernel_rfl)) (by decide) (fun K hK => ?_)
                       refine goes_ Try.func35 (by kernel_rfl) rfl #[toPtr (.slice Ao55 x12_23.length co55)] (by rfl) rfl rfl (by (try simp only [List.map_toArray, List.map_cons, List.map_nil]); first | done | (rw [hT_HO_12] <;> rfl) | rfl | (simp only [List.length_drop, List.length_take]; rfl)) ?_
                       with_reducible refine (field_Field_Factors.calls _ _ x12_23 t256 _ ?side1 ?side2 A66.out).mono ?_
                       (case side1 => repeat (first | exact (Kd.R_reads' HO_12.out).2.2 | (with_reducible refine Kd.C_alloc ?_ _) | (with_reducible refine Kd.C_drewN ?_ _) | (with_reducible refine Kd.C_drew ?_)))
                       (case side2 => exact (Kd.R_reads' HO_12.out).2.1)
                       rintro e w82 ⟨v257, rfl, ho0, hb⟩
                       refine ⟨_, rfl, ?_⟩
                       have n0_ := Aside0.mk (Kd.R_below (by (with_reducible repeat (first | apply Kd.R_alloc | apply Kd.R_drewN | apply Kd.R_drew)); exact HO_12.out) hb)
                       have n1_ := Aside0.mk (Kd.R_elder' (by (with_reducible repeat (first | apply Kd.R_alloc | apply Kd.R_drewN | apply Kd.R_drew)); exact HO_159.out) (Kd.R_base ho0) hb)
                       have n2_ := Aside0.mk (Kd.R_lower (Kd.R_newB (Kd.R_new' ho0 (Kd.R_lt (by (with_reducible repeat (first | apply Kd.R_alloc | apply Kd.R_drewN | apply Kd.R_drew)); exact HO_159.out))) (g := gb255) (o := .cells #[.int .u64 ((rd_T65 t251 x161_4).f0), .int .i64 ((rd_T65 t251 x161_4).f1)] 65 (0, 0)) (by (with_reducible repeat (first | refine blk_drewN ?_ _ | refine blk_drew ?_ | refine blk_alloc ?_ _)); exact BK255.out)) (below_size bel_))
                       have n3_ := Aside0.mk (blk_below (g := gb212) (o := .cells #[.int .i64 a0_0, .int .i64 a0_1, .int .u64 a0_2, .slice A0_3 l0_3.length c0_3] 25 (0, 0)) (by (with_reducible repeat (first | refine blk_drewN ?_ _ | refine blk_drew ?_ | refine blk_alloc ?_ _)); exact BK212.out) hb)
                       have n4_ := Aside0.mk (blk_below (g := gb255) (o := .cells #[.int .u64 ((rd_T65 t251 x161_4).f0), .int .i64 ((rd_T65 t251 x161_4).f1)] 65 (0, 0)) (by (with_reducible repeat (first | refine blk_drewN ?_ _ | refine blk_drew ?_ | refine blk_alloc ?_ _)); exact BK255.out) hb)
                       have n5_ := Aside0.mk (below_step bel_ hb)
                       clear HO_12
                       clear HO_159
                       clear BK212
                       clear BK255
                       clear HB
                       have HO_12 := n0_
                       have HO_159 := n1_
                       have HO258 := n2_
                       have BK212 := n3_
                       have BK255 := n4_
                       have HB := n5_
                       clear n0_ n1_ n2_ n3_ n4_ n5_
                       (try clear hb)
                       (try clear hb2)
                       (try clear hk)
                       (try clear hi)
                       (try clear ho0)
                       obtain ⟨Ao83, co83, eo83⟩ := Kd.R_slice HO258.out
                       (first | subst eo83 | (injection eo83 with f1_ f2_ f3_; have f4_ := f1_.symm; have f5_ := f3_.symm; clear f1_ f2_ f3_; subst f4_; subst f5_))
                       have p259 : 0 ≤ ((ji67) : Int) := of_decide_eq_true (by assumption)
                       have q259 : (ji67) < (t256.length : Int) := of_decide_eq_true (by assumption)
                       obtain ⟨ad259, e259, hx259_0, hx259_1⟩ := at_T65 (Kd.R_reads' HO258.out).2.2 (ji67) p259 q259
                       cases e259
                       replace p259 := eq_true p259
                       replace q259 := eq_true q259
                       refine hK.out _ _ ⟨(blk_cell BK255.out 0).trans rfl, (blk_cell BK255.out 1).trans rfl⟩ (fun _ => swapS (S' := fun w' => w'.cell? ⟨gb255, 0, none⟩ = some (.int .u64 ((rd_T65 t251 x161_4).f0)) ∧ w'.cell? ⟨gb255, 1, none⟩ = some (.int .i64 ((rd_T65 t251 x161_4).f1)) ∧ w'.cell? (ad259.add (((ji67)).toNat * 2)) = some (.int .u64 ((rd_T65 t256 (ji67)).f0)) ∧ w'.cell? ⟨(ad259.add (((ji67)).toNat * 2)).block, (ad259.add (((ji67)).toNat * 2)).off + 1, none⟩ = some (.int .i64 ((rd_T65 t256 (ji67)).f1))) (fun _ h => ⟨h.1, h.2.1⟩) _ _ _ _ ⟨(blk_cell BK255.out 0).trans rfl, (blk_cell BK255.out 1).trans rfl, hx259_0, hx259_1⟩ (fun hHeld => ?_))
                       clear hK K
                       refine norm_ (a' := ?_) ?_ ?_
                       rotate_left
                       ·show Act.put _ (some 170) _ = _
                        simp only [Act.put, List.setIfInBounds_toArray, List.set_cons_zero, List.set_cons_succ, i64_w, i32_w]
                        rfl
                       refine pure_ (i := 7) (N := some 173) (v := ?_) (a' := ?_) #[true, true, true, true, true, true, true, true, false, false, true, true, false, false, false, false, false, false, false, false, false, false, false, false] rfl rfl (any_of HT_.out (by kernel_rfl)) (fun _ _ _ h => h) (Or.inl ⟨by rfl, ?_⟩) ?_ ?_
                       rotate_left
                       ·intro w'
                        go_simp
                        with_reducible rfl
                       rotate_left
                       ·simp only [Act.put, List.setIfInBounds_toArray, List.set_cons_zero, List.set_cons_succ, i64_w, i32_w]
                        rfl
                       refine pure_ (i := 8) (N := some 174) (v := ?_) (a' := ?_) #[true, true, true, true, true, true, true, true, true, false, true, true, false, false, false, false, false, false, false, false, false, false, false, false] rfl rfl (any_of HT_.out (by kernel_rfl)) (fun _ _ _ h => h) (Or.inl ⟨by rfl, ?_⟩) ?_ ?_
                       rotate_left
                       ·intro w'
                        go_simp
                        with_reducible rfl
                       rotate_left
                       ·simp only [Act.put, List.setIfInBounds_toArray, List.set_cons_zero, List.set_cons_succ, i64_w, i32_w]
                        rfl
                       refine take_ (i := 9) (N := some 175) (v := ?_) (a' := ?_) #[true, true, true, true, true, true, true, true, true, true, true, true, false, false, false, false, false, false, false, false, false, false, false, false] rfl rfl (take_ofW HT_.out HW_.out (by kernel_rfl)) (fun _ _ _ h => h) (Or.inl ⟨by rfl, ?_⟩) hHeld ?_ ?_
                       rotate_left
                       ·rintro w' ⟨s0, s1, s2, s3⟩
                        go_simp
                        with_reducible rfl
                       rotate_left
                       ·simp only [Act.put, List.setIfInBounds_toArray, List.set_cons_zero, List.set_cons_succ, i64_w, i32_w]
                        rfl
                       refine pure_ (i := 12) (N := some 178) (v := ?_) (a' := ?_) #[true, true, true, true, true, true, true, true, true, true, true, true, true, false, false, false, false, false, false, false, false, false, false, false] rfl rfl (any_of HT_.out (by kernel_rfl)) (fun _ _ _ h => h) (Or.inl ⟨by rfl, ?_⟩) ?_ ?_
                       rotate_left
                       ·intro w'
                        go_simp
                        with_reducible rfl
                       rotate_left
                       ·simp only [Act.put, List.setIfInBounds_toArray, List.set_cons_zero, List.set_cons_succ, i64_w, i32_w]
                        rfl
                       refine pure_ (i := 13) (N := some 179) (v := ?_) (a' := ?_) #[true, true, true, true, true, true, true, true, true, true, true, true, true, true, false, false, false, false, false, false, false, false, false, false] rfl rfl (any_of HT_.out (by kernel_rfl)) (fun _ _ _ h => h) (Or.inl ⟨by rfl, ?_⟩) ?_ ?_
                       rotate_left
                       ·intro w'
                        go_simp
                        with_reducible rfl
                       rotate_left
                       ·simp only [Act.put, List.setIfInBounds_toArray, List.set_cons_zero, List.set_cons_succ, i64_w, i32_w]
                        rfl
                       refine pure_ (i := 14) (N := some 180) (v := ?_) (a' := ?_) #[true, true, true, true, true, true, true, true, true, true, true, true, true, true, true, false, false, false, false, false, false, false, false, false] rfl rfl (any_of HT_.out (by kernel_rfl)) (fun _ _ _ h => h) (Or.inl ⟨by rfl, ?_⟩) ?_ ?_
                       rotate_left
                       ·intro w'
                        go_simp
                        with_reducible rfl
                       rotate_left
                       ·simp only [Act.put, List.setIfInBounds_toArray, List.set_cons_zero, List.set_cons_succ, i64_w, i32_w]
                        rfl
                       refine pure_ (i := 15) (N := some 181) (v := ?_) (a' := ?_) #[true, true, true, true, true, true, true, true, true, true, true, true, true, true, true, true, false, false, false, false, false, false, false, false] rfl rfl (any_of HT_.out (by kernel_rfl)) (fun _ _ _ h => h) (Or.inl ⟨by rfl, ?_⟩) ?_ ?_
                       rotate_left
                       ·intro w'
                        go_simp
                        with_reducible rfl
                       rotate_left
                       ·simp only [Act.put, List.setIfInBounds_toArray, List.set_cons_zero, List.set_cons_succ, i64_w, i32_w]
                        rfl
                       refine take_ (i := 16) (N := some 182) (v := ?_) (a' := ?_) #[true, true, true, true, true, true, true, true, true, true, true, true, true, true, true, true, true, false, false, false, false, false, false, false] rfl rfl (take_ofW HT_.out HW_.out (by kernel_rfl)) (fun _ _ _ h => h) (Or.inl ⟨by rfl, ?_⟩) hHeld ?_ ?_
                       rotate_left
                       ·rintro w' ⟨s0, s1, s2, s3⟩
                        go_simp
                        with_reducible rfl
                       rotate_left
                       ·simp only [Act.put, List.setIfInBounds_toArray, List.set_cons_zero, List.set_cons_succ, i64_w, i32_w]
                        rfl
                       refine pure_ (i := 17) (N := some 183) (v := ?_) (a' := ?_) #[true, true, true, true, true, true, true, true, true, true, true, true, true, true, true, true, true, true, false, false, false, false, false, false] rfl rfl (any_of HT_.out (by kernel_rfl)) (fun _ _ _ h => h) (Or.inl ⟨by rfl, ?_⟩) ?_ ?_
                       rotate_left
                       ·intro w'
                        go_simp
                        with_reducible rfl
                       rotate_left
                       ·simp only [Act.put, List.setIfInBounds_toArray, List.set_cons_zero, List.set_cons_succ, i64_w, i32_w]
                        rfl
                       refine pure_ (i := 18) (N := some 184) (v := ?_) (a' := ?_) #[true, true, true, true, true, true, true, true, true, true, true, true, true, true, true, true, true, true, true, false, false, false, false, false] rfl rfl (any_of HT_.out (by kernel_rfl)) (fun _ _ _ h => h) (Or.inl ⟨by rfl, ?_⟩) ?_ ?_
                       rotate_left
                       ·intro w'
                        go_simp
                        with_reducible rfl
                       rotate_left
                       ·simp only [Act.put, List.setIfInBounds_toArray, List.set_cons_zero, List.set_cons_succ, i64_w, i32_w]
                        rfl
                       refine pure_ (i := 19) (N := some 185) (v := ?_) (a' := ?_) #[true, true, true, true, true, true, true, true, true, true, true, true, true, true, true, true, true, true, true, true, false, false, false, false] rfl rfl (any_of HT_.out (by kernel_rfl)) (fun _ _ _ h => h) (Or.inl ⟨by rfl, ?_⟩) ?_ ?_
                       rotate_left
                       ·intro w'
                        go_simp
                        with_reducible rfl
                       rotate_left
                       ·simp only [Act.put, List.setIfInBounds_toArray, List.set_cons_zero, List.set_cons_succ, i64_w, i32_w]
                        rfl
                       refine pure_ (i := 20) (N := some 186) (v := ?_) (a' := ?_) #[true, true, true, true, true, true, true, true, true, true, true, true, true, true, true, true, true, true, true, true, true, false, false, false] rfl rfl (any_of HT_.out (by kernel_rfl)) (fun _ _ _ h => h) (Or.inl ⟨by rfl, ?_⟩) ?_ ?_
                       rotate_left
                       ·intro w'
                        go_simp
                        with_reducible rfl
                       rotate_left
                       ·simp only [Act.put, List.setIfInBounds_toArray, List.set_cons_zero, List.set_cons_succ, i64_w, i32_w]
                        rfl
                       refine take_ (i := 21) (N := some 187) (v := ?_) (a' := ?_) #[true, true, true, true, true, true, true, true, true, true, true, true, true, true, true, true, true, true, true, true, true, true, false, false] rfl rfl (take_ofW HT_.out HW_.out (by kernel_rfl)) (fun _ _ _ h => h) (Or.inl ⟨by rfl, ?_⟩) hHeld ?_ ?_
                       rotate_left
                       ·rintro w' ⟨s0, s1, s2, s3⟩
                        go_simp
                        with_reducible rfl
                       rotate_left
                       ·simp only [Act.put, List.setIfInBounds_toArray, List.set_cons_zero, List.set_cons_succ, i64_w, i32_w]
                        rfl
                       refine pure_ (i := 22) (N := some 188) (v := ?_) (a' := ?_) #[true, true, true, true, true, true, true, true, true, true, true, true, true, true, true, true, true, true, true, true, true, true, true, false] rfl rfl (any_of HT_.out (by kernel_rfl)) (fun _ _ _ h => h) (Or.inl ⟨by rfl, ?_⟩) ?_ ?_
                       rotate_left
                       ·intro w'
                        go_simp
                        with_reducible rfl
                       rotate_left
                       ·simp only [Act.put, List.setIfInBounds_toArray, List.set_cons_zero, List.set_cons_succ, i64_w, i32_w]
                        rfl
                       refine pure_ (i := 23) (N := some 189) (v := ?_) (a' := ?_) #[true, true, true, true, true, true, true, true, true, true, true, true, true, true, true, true, true, true, true, true, true, true, true, true] rfl rfl (any_of HT_.out (by kernel_rfl)) (fun _ _ _ h => h) (Or.inl ⟨by rfl, ?_⟩) ?_ ?_
                       rotate_left
                       ·intro w'
                        go_simp
                        with_reducible rfl
                       rotate_left
                       ·simp only [Act.put, List.setIfInBounds_toArray, List.set_cons_zero, List.set_cons_succ, i64_w, i32_w]
                        rfl
                       refine done_ (done_of HT_.out (by kernel_rfl)) ?_
                       try go_wp2
                       go_meet
                       case rel => exact ⟨_, (decide (((rd_T65 t251 x161_4).f1) > 62)), (by first | rfl | (simp; done) | (simp [*]; done)), H', ⟨by have := HK1.out; have := HJ23.out; have := HJ41.out; have := HK4.out; first | omega | exact Nat.le_refl _⟩, ⟨by (with_reducible repeat (first | apply Kd.R_alloc | apply Kd.R_drewN | apply Kd.R_drew)); exact HO_12.out⟩, ⟨by (with_reducible repeat (first | apply Kd.R_alloc | apply Kd.R_drewN | apply Kd.R_drew)); exact Kd.R_mono HO_159.out (fun _ hk => hk.1)⟩, ⟨by (with_reducible repeat (first | refine blk_drewN ?_ _ | refine blk_drew ?_ | refine blk_alloc ?_ _)); exact BK212.out⟩, ⟨by (with_reducible repeat (first | refine blk_drewN ?_ _ | refine blk_drew ?_ | refine blk_alloc ?_ _)); exact BK255.out⟩, ⟨bel_⟩⟩
                    ·rw [if_neg c69] at H
                     exact absurd H (by simp)
                   ·rw [if_neg c68] at H
                    exact absurd H (by simp)
                  ·rw [if_neg c65] at H
                   have c65b0 := decide_eq_false c65
                   clear c65
                   (first | rw [c65b0] | (simp only [i64_w, i32_w]; rw [c65b0]) | skip)
                   by_cases c84 : ((rd_T65 t251 x161_4).f1) < 1
                   ·rw [if_pos c84] at H
                    have c84b0 := decide_eq_true c84
                    clear c84
                    have H' := Aside0.mk H
                    clear H
                    try go_wp2
                    have n0_ : Aside0 (Kd.R kFld 70 ((w62.setCell ⟨gb255, 0, none⟩ (.int .u64 ((rd_T65 t251 x161_4).f0))).setCell ⟨gb255, 1, none⟩ (.int .i64 ((rd_T65 t251 x161_4).f1))) w.heap.size (fun _ => True) (.slice Ao55 x12_23.length co55) x12_23) := ⟨by (with_reducible repeat (first | apply Kd.R_alloc | apply Kd.R_drewN | apply Kd.R_drew)); exact Kd.R_mono (Kd.R_far (p := ⟨gb255, 1, none⟩) (Kd.R_far (p := ⟨gb255, 0, none⟩) (Kd.R_mono HO_12.out (fun k_ hk => (⟨hk, hk.2⟩ : _ ∧ k_ ≠ gb255))) (fun _ hk => hk.2) (.int .u64 ((rd_T65 t251 x161_4).f0))) (fun _ hk => hk.2) (.int .i64 ((rd_T65 t251 x161_4).f1))) (fun _ hk => trivial)⟩
                    have n1_ : Aside0 (Kd.R k65 65 ((w62.setCell ⟨gb255, 0, none⟩ (.int .u64 ((rd_T65 t251 x161_4).f0))).setCell ⟨gb255, 1, none⟩ (.int .i64 ((rd_T65 t251 x161_4).f1))) w.heap.size (fun k_ => k_ ≠ gb255) (.slice (some ad254) t251.length co57) t251) := ⟨by (with_reducible repeat (first | apply Kd.R_alloc | apply Kd.R_drewN | apply Kd.R_drew)); exact Kd.R_mono (Kd.R_far (p := ⟨gb255, 1, none⟩) (Kd.R_far (p := ⟨gb255, 0, none⟩) (Kd.R_mono HO_159.out (fun k_ hk => (⟨hk, hk.2⟩ : _ ∧ k_ ≠ gb255))) (fun _ hk => hk.2) (.int .u64 ((rd_T65 t251 x161_4).f0))) (fun _ hk => hk.2) (.int .i64 ((rd_T65 t251 x161_4).f1))) (fun _ hk => hk.1.2)⟩
                    have n2_ : Aside0 (((w62.setCell ⟨gb255, 0, none⟩ (.int .u64 ((rd_T65 t251 x161_4).f0))).setCell ⟨gb255, 1, none⟩ (.int .i64 ((rd_T65 t251 x161_4).f1))).heap[gb212]? = some (.cells #[.int .i64 a0_0, .int .i64 a0_1, .int .u64 a0_2, .slice A0_3 l0_3.length c0_3] 25 (0, 0))) := ⟨by (with_reducible repeat (first | refine blk_drewN ?_ _ | refine blk_drew ?_ | refine blk_alloc ?_ _)); refine blk_far ?_ NB212_255.out _; (with_reducible repeat (first | refine blk_drewN ?_ _ | refine blk_drew ?_ | refine blk_alloc ?_ _)); refine blk_far ?_ NB212_255.out _; (with_reducible repeat (first | refine blk_drewN ?_ _ | refine blk_drew ?_ | refine blk_alloc ?_ _)); exact BK212.out⟩
                    have n3_ : Aside0 (((w62.setCell ⟨gb255, 0, none⟩ (.int .u64 ((rd_T65 t251 x161_4).f0))).setCell ⟨gb255, 1, none⟩ (.int .i64 ((rd_T65 t251 x161_4).f1))).heap[gb255]? = some (.cells #[.int .u64 ((rd_T65 t251 x161_4).f0), .int .i64 ((rd_T65 t251 x161_4).f1)] 65 (0, 0))) := ⟨by (with_reducible repeat (first | refine blk_drewN ?_ _ | refine blk_drew ?_ | refine blk_alloc ?_ _)); refine blk_put (cs := #[.int .u64 ((rd_T65 t251 x161_4).f0), .int .i64 0]) ?_ 1 _ rfl; (with_reducible repeat (first | refine blk_drewN ?_ _ | refine blk_drew ?_ | refine blk_alloc ?_ _)); refine blk_put (cs := #[.int .u64 0, .int .i64 0]) ?_ 0 _ rfl; (with_reducible repeat (first | refine blk_drewN ?_ _ | refine blk_drew ?_ | refine blk_alloc ?_ _)); exact BK255.out⟩
                    have n4_ : Aside0 (Below w.heap.size w ((w62.setCell ⟨gb255, 0, none⟩ (.int .u64 ((rd_T65 t251 x161_4).f0))).setCell ⟨gb255, 1, none⟩ (.int .i64 ((rd_T65 t251 x161_4).f1)))) := ⟨bel_⟩
                    (try clear HO_12)
                    (try clear HO_159)
                    (try clear BK212)
                    (try clear BK255)
                    (try clear HB)
                    generalize ((w62.setCell ⟨gb255, 0, none⟩ (.int .u64 ((rd_T65 t251 x161_4).f0))).setCell ⟨gb255, 1, none⟩ (.int .i64 ((rd_T65 t251 x161_4).f1))) = w85 at n0_ n1_ n2_ n3_ n4_ ⊢
                    have HO_12 := n0_
                    have HO_159 := n1_
                    have BK212 := n2_
                    have BK255 := n3_
                    have HB := n4_
                    clear n0_ n1_ n2_ n3_ n4_
                    have n0_ := Aside0.mk (Kd.R_drew HO_12.out)
                    have n1_ := Aside0.mk (Kd.R_drew HO_159.out)
                    have n2_ := Aside0.mk (blk_drew BK212.out)
                    have n3_ := Aside0.mk (blk_drew BK255.out)
                    have n4_ := Aside0.mk (below_drew1 HB.out)
                    clear HO_12
                    clear HO_159
                    clear BK212
                    clear BK255
                    clear HB
                    have HO_12 := n0_
                    have HO_159 := n1_
                    have BK212 := n2_
                    have BK255 := n3_
                    have HB := n4_
                    clear n0_ n1_ n2_ n3_ n4_
                    refine start_ (n := 24) (S := fun w' => w'.cell? ⟨gb255, 0, none⟩ = some (.int .u64 ((rd_T65 t251 x161_4).f0)) ∧ w'.cell? ⟨gb255, 1, none⟩ = some (.int .i64 ((rd_T65 t251 x161_4).f1))) (ds := []) #[false, false, false, false, false, false, false, false, false, false, false, false, false, false, false, false, false, false, false, false, false, false, false, false] (by kernel_rfl) rfl rfl ⟨(blk_cell BK255.out 0).trans rfl, (blk_cell BK255.out 1).trans rfl⟩ (fun hHeld => ?_); refine with_tabW epicyclelaw06_FieldMakes.tab29 epicyclelaw06_FieldMakes.bits29 (fun HT_ HW_ => ?_)
                    generalize w85.drew = w86 at HO_12 HO_159 BK212 BK255 HB hHeld ⊢
                    refine pure_ (i := 0) (N := some 166) (v := ?_) (a' := ?_) #[true, false, false, false, false, false, false, false, false, false, false, false, false, false, false, false, false, false, false, false, false, false, false, false] rfl rfl (any_of HT_.out (by kernel_rfl)) (fun _ _ _ h => h) (Or.inl ⟨by rfl, ?_⟩) ?_ ?_
                    rotate_left
                    ·intro w'
                     go_simp
                     with_reducible rfl
                    rotate_left
                    ·simp only [Act.put, List.setIfInBounds_toArray, List.set_cons_zero, List.set_cons_succ, i64_w, i32_w]
                     rfl
                    refine pure_ (i := 1) (N := some 167) (v := ?_) (a' := ?_) #[true, true, false, false, false, false, false, false, false, false, false, false, false, false, false, false, false, false, false, false, false, false, false, false] rfl rfl (any_of HT_.out (by kernel_rfl)) (fun _ _ _ h => h) (Or.inl ⟨by rfl, ?_⟩) ?_ ?_
                    rotate_left
                    ·intro w'
                     go_simp
                     with_reducible rfl
                    rotate_left
                    ·simp only [Act.put, List.setIfInBounds_toArray, List.set_cons_zero, List.set_cons_succ, i64_w, i32_w]
                     rfl
                    refine pure_ (i := 2) (N := some 168) (v := ?_) (a' := ?_) #[true, true, true, false, false, false, false, false, false, false, false, false, false, false, false, false, false, false, false, false, false, false, false, false] rfl rfl (any_of HT_.out (by kernel_rfl)) (fun _ _ _ h => h) (Or.inl ⟨by rfl, ?_⟩) ?_ ?_
                    rotate_left
                    ·intro w'
                     go_simp
                     with_reducible rfl
                    rotate_left
                    ·simp only [Act.put, List.setIfInBounds_toArray, List.set_cons_zero, List.set_cons_succ, i64_w, i32_w]
                     rfl
                    refine pure_ (i := 3) (N := some 169) (v := undef) (a' := ?_) #[true, true, true, true, false, false, false, false, false, false, false, false, false, false, false, false, false, false, false, false, false, false, false, false] rfl rfl (any_of HT_.out (by kernel_rfl)) (fun _ _ _ h => h) (Or.inr ⟨by rfl, rfl⟩) ?_ ?_
                    rotate_left
                    ·simp only [Act.put, List.setIfInBounds_toArray, List.set_cons_zero, List.set_cons_succ, i64_w, i32_w]
                     rfl
                    refine pure_ (i := 4) (N := some 170) (v := undef) (a' := ?_) #[true, true, true, true, true, false, false, false, false, false, false, false, false, false, false, false, false, false, false, false, false, false, false, false] rfl rfl (any_of HT_.out (by kernel_rfl)) (fun _ _ _ h => h) (Or.inr ⟨by rfl, rfl⟩) ?_ ?_
                    rotate_left
                    ·simp only [Act.put, List.setIfInBounds_toArray, List.set_cons_zero, List.set_cons_succ, i64_w, i32_w]
                     rfl
                    refine pure_ (i := 5) (N := some 171) (v := undef) (a' := ?_) #[true, true, true, true, true, true, false, false, false, false, false, false, false, false, false, false, false, false, false, false, false, false, false, false] rfl rfl (any_of HT_.out (by kernel_rfl)) (fun _ _ _ h => h) (Or.inr ⟨by rfl, rfl⟩) ?_ ?_
                    rotate_left
                    ·simp only [Act.put, List.setIfInBounds_toArray, List.set_cons_zero, List.set_cons_succ, i64_w, i32_w]
                     rfl
                    refine pure_ (i := 6) (N := some 172) (v := undef) (a' := ?_) #[true, true, true, true, true, true, true, false, false, false, false, false, false, false, false, false, false, false, false, false, false, false, false, false] rfl rfl (any_of HT_.out (by kernel_rfl)) (fun _ _ _ h => h) (Or.inr ⟨by rfl, rfl⟩) ?_ ?_
                    rotate_left
                    ·simp only [Act.put, List.setIfInBounds_toArray, List.set_cons_zero, List.set_cons_succ, i64_w, i32_w]
                     rfl
                    refine pure_ (i := 7) (N := some 173) (v := undef) (a' := ?_) #[true, true, true, true, true, true, true, true, false, false, false, false, false, false, false, false, false, false, false, false, false, false, false, false] rfl rfl (any_of HT_.out (by kernel_rfl)) (fun _ _ _ h => h) (Or.inr ⟨by rfl, rfl⟩) ?_ ?_
                    rotate_left
                    ·simp only [Act.put, List.setIfInBounds_toArray, List.set_cons_zero, List.set_cons_succ, i64_w, i32_w]
                     rfl
                    refine pure_ (i := 8) (N := some 174) (v := undef) (a' := ?_) #[true, true, true, true, true, true, true, true, true, false, false, false, false, false, false, false, false, false, false, false, false, false, false, false] rfl rfl (any_of HT_.out (by kernel_rfl)) (fun _ _ _ h => h) (Or.inr ⟨by rfl, rfl⟩) ?_ ?_
                    rotate_left
                    ·simp only [Act.put, List.setIfInBounds_toArray, List.set_cons_zero, List.set_cons_succ, i64_w, i32_w]
                     rfl
                    refine pure_ (i := 9) (N := some 175) (v := undef) (a' := ?_) #[true, true, true, true, true, true, true, true, true, true, false, false, false, false, false, false, false, false, false, false, false, false, false, false] rfl rfl (any_of HT_.out (by kernel_rfl)) (fun _ _ _ h => h) (Or.inr ⟨by rfl, rfl⟩) ?_ ?_
                    rotate_left
                    ·simp only [Act.put, List.setIfInBounds_toArray, List.set_cons_zero, List.set_cons_succ, i64_w, i32_w]
                     rfl
                    refine pure_ (i := 10) (N := some 176) (v := undef) (a' := ?_) #[true, true, true, true, true, true, true, true, true, true, true, false, false, false, false, false, false, false, false, false, false, false, false, false] rfl rfl (any_of HT_.out (by kernel_rfl)) (fun _ _ _ h => h) (Or.inr ⟨by rfl, rfl⟩) ?_ ?_
                    rotate_left
                    ·simp only [Act.put, List.setIfInBounds_toArray, List.set_cons_zero, List.set_cons_succ, i64_w, i32_w]
                     rfl
                    refine pure_ (i := 11) (N := some 177) (v := undef) (a' := ?_) #[true, true, true, true, true, true, true, true, true, true, true, true, false, false, false, false, false, false, false, false, false, false, false, false] rfl rfl (any_of HT_.out (by kernel_rfl)) (fun _ _ _ h => h) (Or.inr ⟨by rfl, rfl⟩) ?_ ?_
                    rotate_left
                    ·simp only [Act.put, List.setIfInBounds_toArray, List.set_cons_zero, List.set_cons_succ, i64_w, i32_w]
                     rfl
                    refine pure_ (i := 12) (N := some 178) (v := undef) (a' := ?_) #[true, true, true, true, true, true, true, true, true, true, true, true, true, false, false, false, false, false, false, false, false, false, false, false] rfl rfl (any_of HT_.out (by kernel_rfl)) (fun _ _ _ h => h) (Or.inr ⟨by rfl, rfl⟩) ?_ ?_
                    rotate_left
                    ·simp only [Act.put, List.setIfInBounds_toArray, List.set_cons_zero, List.set_cons_succ, i64_w, i32_w]
                     rfl
                    refine pure_ (i := 13) (N := some 179) (v := ?_) (a' := ?_) #[true, true, true, true, true, true, true, true, true, true, true, true, true, true, false, false, false, false, false, false, false, false, false, false] rfl rfl (any_of HT_.out (by kernel_rfl)) (fun _ _ _ h => h) (Or.inl ⟨by rfl, ?_⟩) ?_ ?_
                    rotate_left
                    ·intro w'
                     go_simp
                     with_reducible rfl
                    rotate_left
                    ·simp only [Act.put, List.setIfInBounds_toArray, List.set_cons_zero, List.set_cons_succ, i64_w, i32_w]
                     rfl
                    refine pure_ (i := 14) (N := some 180) (v := ?_) (a' := ?_) #[true, true, true, true, true, true, true, true, true, true, true, true, true, true, true, false, false, false, false, false, false, false, false, false] rfl rfl (any_of HT_.out (by kernel_rfl)) (fun _ _ _ h => h) (Or.inl ⟨by rfl, ?_⟩) ?_ ?_
                    rotate_left
                    ·intro w'
                     go_simp
                     with_reducible rfl
                    rotate_left
                    ·simp only [Act.put, List.setIfInBounds_toArray, List.set_cons_zero, List.set_cons_succ, i64_w, i32_w]
                     rfl
                    refine pure_ (i := 15) (N := some 181) (v := ?_) (a' := ?_) #[true, true, true, true, true, true, true, true, true, true, true, true, true, true, true, true, false, false, false, false, false, false, false, false] rfl rfl (any_of HT_.out (by kernel_rfl)) (fun _ _ _ h => h) (Or.inl ⟨by rfl, ?_⟩) ?_ ?_
                    rotate_left
                    ·intro w'
                     go_simp
                     with_reducible rfl
                    rotate_left
                    ·simp only [Act.put, List.setIfInBounds_toArray, List.set_cons_zero, List.set_cons_succ, i64_w, i32_w]
                     rfl
                    refine take_ (i := 16) (N := some 182) (v := ?_) (a' := ?_) #[true, true, true, true, true, true, true, true, true, true, true, true, true, true, true, true, true, false, false, false, false, false, false, false] rfl rfl (take_ofW HT_.out HW_.out (by kernel_rfl)) (fun _ _ _ h => h) (Or.inl ⟨by rfl, ?_⟩) hHeld ?_ ?_
                    rotate_left
                    ·rintro w' ⟨s0, s1⟩
                     go_simp
                     with_reducible rfl
                    rotate_left
                    ·simp only [Act.put, List.setIfInBounds_toArray, List.set_cons_zero, List.set_cons_succ, i64_w, i32_w]
                     rfl
                    refine pure_ (i := 17) (N := some 183) (v := ?_) (a' := ?_) #[true, true, true, true, true, true, true, true, true, true, true, true, true, true, true, true, true, true, false, false, false, false, false, false] rfl rfl (any_of HT_.out (by kernel_rfl)) (fun _ _ _ h => h) (Or.inl ⟨by rfl, ?_⟩) ?_ ?_
                    rotate_left
                    ·intro w'
                     go_simp
                     with_reducible rfl
                    rotate_left
                    ·simp only [Act.put, List.setIfInBounds_toArray, List.set_cons_zero, List.set_cons_succ, i64_w, i32_w]
                     rfl
                    refine pure_ (i := 18) (N := some 184) (v := ?_) (a' := ?_) #[true, true, true, true, true, true, true, true, true, true, true, true, true, true, true, true, true, true, true, false, false, false, false, false] rfl rfl (any_of HT_.out (by kernel_rfl)) (fun _ _ _ h => h) (Or.inl ⟨by rfl, ?_⟩) ?_ ?_
                    rotate_left
                    ·intro w'
                     go_simp
                     with_reducible rfl
                    rotate_left
                    ·simp only [Act.put, List.setIfInBounds_toArray, List.set_cons_zero, List.set_cons_succ, i64_w, i32_w]
                     rfl
                    refine pure_ (i := 19) (N := some 185) (v := ?_) (a' := ?_) #[true, true, true, true, true, true, true, true, true, true, true, true, true, true, true, true, true, true, true, true, false, false, false, false] rfl rfl (any_of HT_.out (by kernel_rfl)) (fun _ _ _ h => h) (Or.inl ⟨by rfl, ?_⟩) ?_ ?_
                    rotate_left
                    ·intro w'
                     go_simp
                     with_reducible rfl
                    rotate_left
                    ·simp only [Act.put, List.setIfInBounds_toArray, List.set_cons_zero, List.set_cons_succ, i64_w, i32_w]
                     rfl
                    refine pure_ (i := 20) (N := some 186) (v := undef) (a' := ?_) #[true, true, true, true, true, true, true, true, true, true, true, true, true, true, true, true, true, true, true, true, true, false, false, false] rfl rfl (any_of HT_.out (by kernel_rfl)) (fun _ _ _ h => h) (Or.inr ⟨by rfl, rfl⟩) ?_ ?_
                    rotate_left
                    ·simp only [Act.put, List.setIfInBounds_toArray, List.set_cons_zero, List.set_cons_succ, i64_w, i32_w]
                     rfl
                    refine pure_ (i := 21) (N := some 187) (v := undef) (a' := ?_) #[true, true, true, true, true, true, true, true, true, true, true, true, true, true, true, true, true, true, true, true, true, true, false, false] rfl rfl (any_of HT_.out (by kernel_rfl)) (fun _ _ _ h => h) (Or.inr ⟨by rfl, rfl⟩) ?_ ?_
                    rotate_left
                    ·simp only [Act.put, List.setIfInBounds_toArray, List.set_cons_zero, List.set_cons_succ, i64_w, i32_w]
                     rfl
                    refine pure_ (i := 22) (N := some 188) (v := undef) (a' := ?_) #[true, true, true, true, true, true, true, true, true, true, true, true, true, true, true, true, true, true, true, true, true, true, true, false] rfl rfl (any_of HT_.out (by kernel_rfl)) (fun _ _ _ h => h) (Or.inr ⟨by rfl, rfl⟩) ?_ ?_
                    rotate_left
                    ·simp only [Act.put, List.setIfInBounds_toArray, List.set_cons_zero, List.set_cons_succ, i64_w, i32_w]
                     rfl
                    refine pure_ (i := 23) (N := some 189) (v := ?_) (a' := ?_) #[true, true, true, true, true, true, true, true, true, true, true, true, true, true, true, true, true, true, true, true, true, true, true, true] rfl rfl (any_of HT_.out (by kernel_rfl)) (fun _ _ _ h => h) (Or.inl ⟨by rfl, ?_⟩) ?_ ?_
                    rotate_left
                    ·intro w'
                     go_simp
                     with_reducible rfl
                    rotate_left
                    ·simp only [Act.put, List.setIfInBounds_toArray, List.set_cons_zero, List.set_cons_succ, i64_w, i32_w]
                     rfl
                    refine done_ (done_of HT_.out (by kernel_rfl)) ?_
                    try go_wp2
                    go_meet
                    case rel => exact ⟨_, (true), (by first | rfl | (simp; done) | (simp [*]; done)), H', ⟨by have := HK1.out; have := HJ23.out; have := HJ41.out; have := HK4.out; first | omega | exact Nat.le_refl _⟩, ⟨by (with_reducible repeat (first | apply Kd.R_alloc | apply Kd.R_drewN | apply Kd.R_drew)); exact HO_12.out⟩, ⟨by (with_reducible repeat (first | apply Kd.R_alloc | apply Kd.R_drewN | apply Kd.R_drew)); exact HO_159.out⟩, ⟨by (with_reducible repeat (first | refine blk_drewN ?_ _ | refine blk_drew ?_ | refine blk_alloc ?_ _)); exact BK212.out⟩, ⟨by (with_reducible repeat (first | refine blk_drewN ?_ _ | refine blk_drew ?_ | refine blk_alloc ?_ _)); exact BK255.out⟩, ⟨bel_⟩⟩
                   ·rw [if_neg c84] at H
                    have c84b0 := decide_eq_false c84
                    clear c84
                    have H' := Aside0.mk H
                    clear H
                    try go_wp2
                    have n0_ : Aside0 (Kd.R kFld 70 ((w62.setCell ⟨gb255, 0, none⟩ (.int .u64 ((rd_T65 t251 x161_4).f0))).setCell ⟨gb255, 1, none⟩ (.int .i64 ((rd_T65 t251 x161_4).f1))) w.heap.size (fun _ => True) (.slice Ao55 x12_23.length co55) x12_23) := ⟨by (with_reducible repeat (first | apply Kd.R_alloc | apply Kd.R_drewN | apply Kd.R_drew)); exact Kd.R_mono (Kd.R_far (p := ⟨gb255, 1, none⟩) (Kd.R_far (p := ⟨gb255, 0, none⟩) (Kd.R_mono HO_12.out (fun k_ hk => (⟨hk, hk.2⟩ : _ ∧ k_ ≠ gb255))) (fun _ hk => hk.2) (.int .u64 ((rd_T65 t251 x161_4).f0))) (fun _ hk => hk.2) (.int .i64 ((rd_T65 t251 x161_4).f1))) (fun _ hk => trivial)⟩
                    have n1_ : Aside0 (Kd.R k65 65 ((w62.setCell ⟨gb255, 0, none⟩ (.int .u64 ((rd_T65 t251 x161_4).f0))).setCell ⟨gb255, 1, none⟩ (.int .i64 ((rd_T65 t251 x161_4).f1))) w.heap.size (fun k_ => k_ ≠ gb255) (.slice (some ad254) t251.length co57) t251) := ⟨by (with_reducible repeat (first | apply Kd.R_alloc | apply Kd.R_drewN | apply Kd.R_drew)); exact Kd.R_mono (Kd.R_far (p := ⟨gb255, 1, none⟩) (Kd.R_far (p := ⟨gb255, 0, none⟩) (Kd.R_mono HO_159.out (fun k_ hk => (⟨hk, hk.2⟩ : _ ∧ k_ ≠ gb255))) (fun _ hk => hk.2) (.int .u64 ((rd_T65 t251 x161_4).f0))) (fun _ hk => hk.2) (.int .i64 ((rd_T65 t251 x161_4).f1))) (fun _ hk => hk.1.2)⟩
                    have n2_ : Aside0 (((w62.setCell ⟨gb255, 0, none⟩ (.int .u64 ((rd_T65 t251 x161_4).f0))).setCell ⟨gb255, 1, none⟩ (.int .i64 ((rd_T65 t251 x161_4).f1))).heap[gb212]? = some (.cells #[.int .i64 a0_0, .int .i64 a0_1, .int .u64 a0_2, .slice A0_3 l0_3.length c0_3] 25 (0, 0))) := ⟨by (with_reducible repeat (first | refine blk_drewN ?_ _ | refine blk_drew ?_ | refine blk_alloc ?_ _)); refine blk_far ?_ NB212_255.out _; (with_reducible repeat (first | refine blk_drewN ?_ _ | refine blk_drew ?_ | refine blk_alloc ?_ _)); refine blk_far ?_ NB212_255.out _; (with_reducible repeat (first | refine blk_drewN ?_ _ | refine blk_drew ?_ | refine blk_alloc ?_ _)); exact BK212.out⟩
                    have n3_ : Aside0 (((w62.setCell ⟨gb255, 0, none⟩ (.int .u64 ((rd_T65 t251 x161_4).f0))).setCell ⟨gb255, 1, none⟩ (.int .i64 ((rd_T65 t251 x161_4).f1))).heap[gb255]? = some (.cells #[.int .u64 ((rd_T65 t251 x161_4).f0), .int .i64 ((rd_T65 t251 x161_4).f1)] 65 (0, 0))) := ⟨by (with_reducible repeat (first | refine blk_drewN ?_ _ | refine blk_drew ?_ | refine blk_alloc ?_ _)); refine blk_put (cs := #[.int .u64 ((rd_T65 t251 x161_4).f0), .int .i64 0]) ?_ 1 _ rfl; (with_reducible repeat (first | refine blk_drewN ?_ _ | refine blk_drew ?_ | refine blk_alloc ?_ _)); refine blk_put (cs := #[.int .u64 0, .int .i64 0]) ?_ 0 _ rfl; (with_reducible repeat (first | refine blk_drewN ?_ _ | refine blk_drew ?_ | refine blk_alloc ?_ _)); exact BK255.out⟩
                    have n4_ : Aside0 (Below w.heap.size w ((w62.setCell ⟨gb255, 0, none⟩ (.int .u64 ((rd_T65 t251 x161_4).f0))).setCell ⟨gb255, 1, none⟩ (.int .i64 ((rd_T65 t251 x161_4).f1)))) := ⟨bel_⟩
                    (try clear HO_12)
                    (try clear HO_159)
                    (try clear BK212)
                    (try clear BK255)
                    (try clear HB)
                    generalize ((w62.setCell ⟨gb255, 0, none⟩ (.int .u64 ((rd_T65 t251 x161_4).f0))).setCell ⟨gb255, 1, none⟩ (.int .i64 ((rd_T65 t251 x161_4).f1))) = w87 at n0_ n1_ n2_ n3_ n4_ ⊢
                    have HO_12 := n0_
                    have HO_159 := n1_
                    have BK212 := n2_
                    have BK255 := n3_
                    have HB := n4_
                    clear n0_ n1_ n2_ n3_ n4_
                    have n0_ := Aside0.mk (Kd.R_drew HO_12.out)
                    have n1_ := Aside0.mk (Kd.R_drew HO_159.out)
                    have n2_ := Aside0.mk (blk_drew BK212.out)
                    have n3_ := Aside0.mk (blk_drew BK255.out)
                    have n4_ := Aside0.mk (below_drew1 HB.out)
                    clear HO_12
                    clear HO_159
                    clear BK212
                    clear BK255
                    clear HB
                    have HO_12 := n0_
                    have HO_159 := n1_
                    have BK212 := n2_
                    have BK255 := n3_
                    have HB := n4_
                    clear n0_ n1_ n2_ n3_ n4_
                    refine start_ (n := 24) (S := fun w' => w'.cell? ⟨gb255, 0, none⟩ = some (.int .u64 ((rd_T65 t251 x161_4).f0)) ∧ w'.cell? ⟨gb255, 1, none⟩ = some (.int .i64 ((rd_T65 t251 x161_4).f1))) (ds := []) #[false, false, false, false, false, false, false, false, false, false, false, false, false, false, false, false, false, false, false, false, false, false, false, false] (by kernel_rfl) rfl rfl ⟨(blk_cell BK255.out 0).trans rfl, (blk_cell BK255.out 1).trans rfl⟩ (fun hHeld => ?_); refine with_tabW epicyclelaw06_FieldMakes.tab29 epicyclelaw06_FieldMakes.bits29 (fun HT_ HW_ => ?_)
                    generalize w87.drew = w88 at HO_12 HO_159 BK212 BK255 HB hHeld ⊢
                    refine pure_ (i := 0) (N := some 166) (v := ?_) (a' := ?_) #[true, false, false, false, false, false, false, false, false, false, false, false, false, false, false, false, false, false, false, false, false, false, false, false] rfl rfl (any_of HT_.out (by kernel_rfl)) (fun _ _ _ h => h) (Or.inl ⟨by rfl, ?_⟩) ?_ ?_
                    rotate_left
                    ·intro w'
                     go_simp
                     with_reducible rfl
                    rotate_left
                    ·simp only [Act.put, List.setIfInBounds_toArray, List.set_cons_zero, List.set_cons_succ, i64_w, i32_w]
                     rfl
                    refine pure_ (i := 1) (N := some 167) (v := ?_) (a' := ?_) #[true, true, false, false, false, false, false, false, false, false, false, false, false, false, false, false, false, false, false, false, false, false, false, false] rfl rfl (any_of HT_.out (by kernel_rfl)) (fun _ _ _ h => h) (Or.inl ⟨by rfl, ?_⟩) ?_ ?_
                    rotate_left
                    ·intro w'
                     go_simp
                     with_reducible rfl
                    rotate_left
                    ·simp only [Act.put, List.setIfInBounds_toArray, List.set_cons_zero, List.set_cons_succ, i64_w, i32_w]
                     rfl
                    refine pure_ (i := 2) (N := some 168) (v := ?_) (a' := ?_) #[true, true, true, false, false, false, false, false, false, false, false, false, false, false, false, false, false, false, false, false, false, false, false, false] rfl rfl (any_of HT_.out (by kernel_rfl)) (fun _ _ _ h => h) (Or.inl ⟨by rfl, ?_⟩) ?_ ?_
                    rotate_left
                    ·intro w'
                     go_simp
                     with_reducible rfl
                    rotate_left
                    ·simp only [Act.put, List.setIfInBounds_toArray, List.set_cons_zero, List.set_cons_succ, i64_w, i32_w]
                     rfl
                    refine pure_ (i := 3) (N := some 169) (v := undef) (a' := ?_) #[true, true, true, true, false, false, false, false, false, false, false, false, false, false, false, false, false, false, false, false, false, false, false, false] rfl rfl (any_of HT_.out (by kernel_rfl)) (fun _ _ _ h => h) (Or.inr ⟨by rfl, rfl⟩) ?_ ?_
                    rotate_left
                    ·simp only [Act.put, List.setIfInBounds_toArray, List.set_cons_zero, List.set_cons_succ, i64_w, i32_w]
                     rfl
                    refine pure_ (i := 4) (N := some 170) (v := undef) (a' := ?_) #[true, true, true, true, true, false, false, false, false, false, false, false, false, false, false, false, false, false, false, false, false, false, false, false] rfl rfl (any_of HT_.out (by kernel_rfl)) (fun _ _ _ h => h) (Or.inr ⟨by rfl, rfl⟩) ?_ ?_
                    rotate_left
                    ·simp only [Act.put, List.setIfInBounds_toArray, List.set_cons_zero, List.set_cons_succ, i64_w, i32_w]
                     rfl
                    refine pure_ (i := 5) (N := some 171) (v := undef) (a' := ?_) #[true, true, true, true, true, true, false, false, false, false, false, false, false, false, false, false, false, false, false, false, false, false, false, false] rfl rfl (any_of HT_.out (by kernel_rfl)) (fun _ _ _ h => h) (Or.inr ⟨by rfl, rfl⟩) ?_ ?_
                    rotate_left
                    ·simp only [Act.put, List.setIfInBounds_toArray, List.set_cons_zero, List.set_cons_succ, i64_w, i32_w]
                     rfl
                    refine pure_ (i := 6) (N := some 172) (v := undef) (a' := ?_) #[true, true, true, true, true, true, true, false, false, false, false, false, false, false, false, false, false, false, false, false, false, false, false, false] rfl rfl (any_of HT_.out (by kernel_rfl)) (fun _ _ _ h => h) (Or.inr ⟨by rfl, rfl⟩) ?_ ?_
                    rotate_left
                    ·simp only [Act.put, List.setIfInBounds_toArray, List.set_cons_zero, List.set_cons_succ, i64_w, i32_w]
                     rfl
                    refine pure_ (i := 7) (N := some 173) (v := undef) (a' := ?_) #[true, true, true, true, true, true, true, true, false, false, false, false, false, false, false, false, false, false, false, false, false, false, false, false] rfl rfl (any_of HT_.out (by kernel_rfl)) (fun _ _ _ h => h) (Or.inr ⟨by rfl, rfl⟩) ?_ ?_
                    rotate_left
                    ·simp only [Act.put, List.setIfInBounds_toArray, List.set_cons_zero, List.set_cons_succ, i64_w, i32_w]
                     rfl
                    refine pure_ (i := 8) (N := some 174) (v := undef) (a' := ?_) #[true, true, true, true, true, true, true, true, true, false, false, false, false, false, false, false, false, false, false, false, false, false, false, false] rfl rfl (any_of HT_.out (by kernel_rfl)) (fun _ _ _ h => h) (Or.inr ⟨by rfl, rfl⟩) ?_ ?_
                    rotate_left
                    ·simp only [Act.put, List.setIfInBounds_toArray, List.set_cons_zero, List.set_cons_succ, i64_w, i32_w]
                     rfl
                    refine pure_ (i := 9) (N := some 175) (v := undef) (a' := ?_) #[true, true, true, true, true, true, true, true, true, true, false, false, false, false, false, false, false, false, false, false, false, false, false, false] rfl rfl (any_of HT_.out (by kernel_rfl)) (fun _ _ _ h => h) (Or.inr ⟨by rfl, rfl⟩) ?_ ?_
                    rotate_left
                    ·simp only [Act.put, List.setIfInBounds_toArray, List.set_cons_zero, List.set_cons_succ, i64_w, i32_w]
                     rfl
                    refine pure_ (i := 10) (N := some 176) (v := undef) (a' := ?_) #[true, true, true, true, true, true, true, true, true, true, true, false, false, false, false, false, false, false, false, false, false, false, false, false] rfl rfl (any_of HT_.out (by kernel_rfl)) (fun _ _ _ h => h) (Or.inr ⟨by rfl, rfl⟩) ?_ ?_
                    rotate_left
                    ·simp only [Act.put, List.setIfInBounds_toArray, List.set_cons_zero, List.set_cons_succ, i64_w, i32_w]
                     rfl
                    refine pure_ (i := 11) (N := some 177) (v := undef) (a' := ?_) #[true, true, true, true, true, true, true, true, true, true, true, true, false, false, false, false, false, false, false, false, false, false, false, false] rfl rfl (any_of HT_.out (by kernel_rfl)) (fun _ _ _ h => h) (Or.inr ⟨by rfl, rfl⟩) ?_ ?_
                    rotate_left
                    ·simp only [Act.put, List.setIfInBounds_toArray, List.set_cons_zero, List.set_cons_succ, i64_w, i32_w]
                     rfl
                    refine pure_ (i := 12) (N := some 178) (v := undef) (a' := ?_) #[true, true, true, true, true, true, true, true, true, true, true, true, true, false, false, false, false, false, false, false, false, false, false, false] rfl rfl (any_of HT_.out (by kernel_rfl)) (fun _ _ _ h => h) (Or.inr ⟨by rfl, rfl⟩) ?_ ?_
                    rotate_left
                    ·simp only [Act.put, List.setIfInBounds_toArray, List.set_cons_zero, List.set_cons_succ, i64_w, i32_w]
                     rfl
                    refine pure_ (i := 13) (N := some 179) (v := ?_) (a' := ?_) #[true, true, true, true, true, true, true, true, true, true, true, true, true, true, false, false, false, false, false, false, false, false, false, false] rfl rfl (any_of HT_.out (by kernel_rfl)) (fun _ _ _ h => h) (Or.inl ⟨by rfl, ?_⟩) ?_ ?_
                    rotate_left
                    ·intro w'
                     go_simp
                     with_reducible rfl
                    rotate_left
                    ·simp only [Act.put, List.setIfInBounds_toArray, List.set_cons_zero, List.set_cons_succ, i64_w, i32_w]
                     rfl
                    refine pure_ (i := 14) (N := some 180) (v := ?_) (a' := ?_) #[true, true, true, true, true, true, true, true, true, true, true, true, true, true, true, false, false, false, false, false, false, false, false, false] rfl rfl (any_of HT_.out (by kernel_rfl)) (fun _ _ _ h => h) (Or.inl ⟨by rfl, ?_⟩) ?_ ?_
                    rotate_left
                    ·intro w'
                     go_simp
                     with_reducible rfl
                    rotate_left
                    ·simp only [Act.put, List.setIfInBounds_toArray, List.set_cons_zero, List.set_cons_succ, i64_w, i32_w]
                     rfl
                    refine pure_ (i := 15) (N := some 181) (v := ?_) (a' := ?_) #[true, true, true, true, true, true, true, true, true, true, true, true, true, true, true, true, false, false, false, false, false, false, false, false] rfl rfl (any_of HT_.out (by kernel_rfl)) (fun _ _ _ h => h) (Or.inl ⟨by rfl, ?_⟩) ?_ ?_
                    rotate_left
                    ·intro w'
                     go_simp
                     with_reducible rfl
                    rotate_left
                    ·simp only [Act.put, List.setIfInBounds_toArray, List.set_cons_zero, List.set_cons_succ, i64_w, i32_w]
                     rfl
                    refine take_ (i := 16) (N := some 182) (v := ?_) (a' := ?_) #[true, true, true, true, true, true, true, true, true, true, true, true, true, true, true, true, true, false, false, false, false, false, false, false] rfl rfl (take_ofW HT_.out HW_.out (by kernel_rfl)) (fun _ _ _ h => h) (Or.inl ⟨by rfl, ?_⟩) hHeld ?_ ?_
                    rotate_left
                    ·rintro w' ⟨s0, s1⟩
                     go_simp
                     with_reducible rfl
                    rotate_left
                    ·simp only [Act.put, List.setIfInBounds_toArray, List.set_cons_zero, List.set_cons_succ, i64_w, i32_w]
                     rfl
                    refine pure_ (i := 17) (N := some 183) (v := ?_) (a' := ?_) #[true, true, true, true, true, true, true, true, true, true, true, true, true, true, true, true, true, true, false, false, false, false, false, false] rfl rfl (any_of HT_.out (by kernel_rfl)) (fun _ _ _ h => h) (Or.inl ⟨by rfl, ?_⟩) ?_ ?_
                    rotate_left
                    ·intro w'
                     go_simp
                     with_reducible rfl
                    rotate_left
                    ·simp only [Act.put, List.setIfInBounds_toArray, List.set_cons_zero, List.set_cons_succ, i64_w, i32_w]
                     rfl
                    refine pure_ (i := 18) (N := some 184) (v := ?_) (a' := ?_) #[true, true, true, true, true, true, true, true, true, true, true, true, true, true, true, true, true, true, true, false, false, false, false, false] rfl rfl (any_of HT_.out (by kernel_rfl)) (fun _ _ _ h => h) (Or.inl ⟨by rfl, ?_⟩) ?_ ?_
                    rotate_left
                    ·intro w'
                     go_simp
                     with_reducible rfl
                    rotate_left
                    ·simp only [Act.put, List.setIfInBounds_toArray, List.set_cons_zero, List.set_cons_succ, i64_w, i32_w]
                     rfl
                    refine pure_ (i := 19) (N := some 185) (v := ?_) (a' := ?_) #[true, true, true, true, true, true, true, true, true, true, true, true, true, true, true, true, true, true, true, true, false, false, false, false] rfl rfl (any_of HT_.out (by kernel_rfl)) (fun _ _ _ h => h) (Or.inl ⟨by rfl, ?_⟩) ?_ ?_
                    rotate_left
                    ·intro w'
                     go_simp
                     with_reducible rfl
                    rotate_left
                    ·simp only [Act.put, List.setIfInBounds_toArray, List.set_cons_zero, List.set_cons_succ, i64_w, i32_w]
                     rfl
                    refine pure_ (i := 20) (N := some 186) (v := ?_) (a' := ?_) #[true, true, true, true, true, true, true, true, true, true, true, true, true, true, true, true, true, true, true, true, true, false, false, false] rfl rfl (any_of HT_.out (by kernel_rfl)) (fun _ _ _ h => h) (Or.inl ⟨by rfl, ?_⟩) ?_ ?_
                    rotate_left
                    ·intro w'
                     go_simp
                     with_reducible rfl
                    rotate_left
                    ·simp only [Act.put, List.setIfInBounds_toArray, List.set_cons_zero, List.set_cons_succ, i64_w, i32_w]
                     rfl
                    refine take_ (i := 21) (N := some 187) (v := ?_) (a' := ?_) #[true, true, true, true, true, true, true, true, true, true, true, true, true, true, true, true, true, true, true, true, true, true, false, false] rfl rfl (take_ofW HT_.out HW_.out (by kernel_rfl)) (fun _ _ _ h => h) (Or.inl ⟨by rfl, ?_⟩) hHeld ?_ ?_
                    rotate_left
                    ·rintro w' ⟨s0, s1⟩
                     go_simp
                     with_reducible rfl
                    rotate_left
                    ·simp only [Act.put, List.setIfInBounds_toArray, List.set_cons_zero, List.set_cons_succ, i64_w, i32_w]
                     rfl
                    refine pure_ (i := 22) (N := some 188) (v := ?_) (a' := ?_) #[true, true, true, true, true, true, true, true, true, true, true, true, true, true, true, true, true, true, true, true, true, true, true, false] rfl rfl (any_of HT_.out (by kernel_rfl)) (fun _ _ _ h => h) (Or.inl ⟨by rfl, ?_⟩) ?_ ?_
                    rotate_left
                    ·intro w'
                     go_simp
                     with_reducible rfl
                    rotate_left
                    ·simp only [Act.put, List.setIfInBounds_toArray, List.set_cons_zero, List.set_cons_succ, i64_w, i32_w]
                     rfl
                    refine pure_ (i := 23) (N := some 189) (v := ?_) (a' := ?_) #[true, true, true, true, true, true, true, true, true, true, true, true, true, true, true, true, true, true, true, true, true, true, true, true] rfl rfl (any_of HT_.out (by kernel_rfl)) (fun _ _ _ h => h) (Or.inl ⟨by rfl, ?_⟩) ?_ ?_
                    rotate_left
                    ·intro w'
                     go_simp
                     with_reducible rfl
                    rotate_left
                    ·simp only [Act.put, List.setIfInBounds_toArray, List.set_cons_zero, List.set_cons_succ, i64_w, i32_w]
                     rfl
                    refine done_ (done_of HT_.out (by kernel_rfl)) ?_
                    try go_wp2
                    go_meet
                    case rel => exact ⟨_, (decide (((rd_T65 t251 x161_4).f1) > 62)), (by first | rfl | (simp; done) | (simp [*]; done)), H', ⟨by have := HK1.out; have := HJ23.out; have := HJ41.out; have := HK4.out; first | omega | exact Nat.le_refl _⟩, ⟨by (with_reducible repeat (first | apply Kd.R_alloc | apply Kd.R_drewN | apply Kd.R_drew)); exact HO_12.out⟩, ⟨by (with_reducible repeat (first | apply Kd.R_alloc | apply Kd.R_drewN | apply Kd.R_drew)); exact HO_159.out⟩, ⟨by (with_reducible repeat (first | refine blk_drewN ?_ _ | refine blk_drew ?_ | refine blk_alloc ?_ _)); exact BK212.out⟩, ⟨by (with_reducible repeat (first | refine blk_drewN ?_ _ | refine blk_drew ?_ | refine blk_alloc ?_ _)); exact BK255.out⟩, ⟨bel_⟩⟩
                 case rest =>
                  clear HC61
                  try clear p2
                  try clear q2
                  try clear hx2
                  try clear c3
                  try clear c6
                  try clear c8
                  try clear p25
                  try clear q25
                  try clear hx25
                  try clear c35
                  try clear c65
                  try clear c65b0
                  try clear c68
                  try clear c69
                  try clear c84
                  try clear c84b0
                  try clear hx259_0
                  try clear hx259_1
                  try clear p259
                  try clear q259
                  obtain ⟨kq, x189_60, rfl, HA, HJ60, HO_12, HO_159, BK212, BK255, HB⟩ := hcut
                  cases kq with
                  | zero => exact absurd HA.out (by simp [epicyclelaw06_FieldMakes.j4])
                  | succ kj60 =>
                   have H := HA.out
                   clear HA
                   simp only [epicyclelaw06_FieldMakes.j4] at H
                   by_cases c89 : x189_60 = true
                   ·subst c89
                    have H1 := H; rw [if_pos rfl] at H1
                    clear H
                    have H := H1
                    clear H1
                    exact absurd H (by simp)
                   ·replace c89 := Bool.eq_false_iff.mpr c89
                    subst c89
                    have H1 := H; rw [if_neg (show ¬ (false = true) by decide)] at H1
                    clear H
                    have H := H1
                    clear H1
                    have H' := Aside0.mk H
                    clear H
                    go_wp2
                    go_loopg [16, 19] kj60 (fun kq v16 v19 w' => ∃ (x16_6 : Int) (x19_6 : Int), v16 = .int .u64 x16_6 ∧ v19 = .int .i64 x19_6 ∧ Aside0 (epicyclelaw06_FieldMakes.l2 kq t216 x12_23 x16_6 x19_6 t251 (t251.length : Int) x161_4 ((rd_T65 t251 x161_4).f0) ((rd_T65 t251 x161_4).f1) = some true) ∧ Aside0 (kq ≤ kj60) ∧ Aside0 (Kd.R kFld 70 w' w.heap.size (fun _ => True) (.slice Ao55 x12_23.length co55) x12_23) ∧ Aside0 (Kd.R k65 65 w' w.heap.size (fun k_ => k_ ≠ gb255) (.slice (some ad254) t251.length co57) t251) ∧ Aside0 (w'.heap[gb212]? = some (.cells #[.int .i64 a0_0, .int .i64 a0_1, .int .u64 a0_2, (.slice A0_3 l0_3.length c0_3)] 25 (0, 0))) ∧ Aside0 (w'.heap[gb255]? = some (.cells #[.int .u64 ((rd_T65 t251 x161_4).f0), .int .i64 ((rd_T65 t251 x161_4).f1)] 65 (0, 0))) ∧ Aside0 (Below w.heap.size w w'))
                    case atStart => exact ⟨(x16_4), (0), (by first | rfl | (simp; done) | (simp [*]; done)), (by first | rfl | (simp; done) | (simp [*]; done)), H', ⟨Nat.le_refl _⟩, ⟨by (with_reducible repeat (first | apply Kd.R_alloc | apply Kd.R_drewN | apply Kd.R_drew)); exact HO_12.out⟩, ⟨by (with_reducible repeat (first | apply Kd.R_alloc | apply Kd.R_drewN | apply Kd.R_drew)); exact HO_159.out⟩, ⟨by (with_reducible repeat (first | refine blk_drewN ?_ _ | refine blk_drew ?_ | refine blk_alloc ?_ _)); exact BK212.out⟩, ⟨by (with_reducible repeat (first | refine blk_drewN ?_ _ | refine blk_drew ?_ | refine blk_alloc ?_ _)); exact BK255.out⟩, ⟨bel_⟩⟩
                    case round =>
                     clear H'
                     try clear p2
                     try clear q2
                     try clear hx2
                     try clear c3
                     try clear c6
                     try clear c8
                     try clear p25
                     try clear q25
                     try clear hx25
                     try clear c35
                     try clear c65
                     try clear c65b0
                     try clear c68
                     try clear c69
                     try clear c84
                     try clear c84b0
                     try clear c89
                     try clear hx259_0
                     try clear hx259_1
                     try clear p2
                     try clear p25
                     try clear p259
                     try clear q2
                     try clear q25
                     try clear q259
                     obtain ⟨x16_6, x19_6, rfl, rfl, HA, HK6, HO_12, HO_159, BK212, BK255, HB⟩ := hrel
                     cases gk with
                     | zero => exact absurd HA.out (by simp [epicyclelaw06_FieldMakes.l2])
                     | succ k6 =>
                      have H := HA.out
                      clear HA
                      simp only [epicyclelaw06_FieldMakes.l2] at H
                      by_cases c90 : x19_6 < ((rd_T65 t251 x161_4).f1)
                      ·rw [if_pos c90] at H
                       have c90b0 := decide_eq_true c90
                       clear c90
                       have H' := Aside0.mk H
                       clear H
                       have hnb91 := NB255_212.out
                       have hnc91 := NB212_255.out
                       have hcz92_0 : wr.cell? ⟨gb255, 0, none⟩ = some (.int .u64 ((rd_T65 t251 x161_4).f0)) := (blk_cell BK255.out 0).trans rfl
                       have hcz92_1 : wr.cell? ⟨gb255, 1, none⟩ = some (.int .i64 ((rd_T65 t251 x161_4).f1)) := (blk_cell BK255.out 1).trans rfl
                       have hfz92_0 := blk_frozen BK255.out 0
                       have hfz92_1 := blk_frozen BK255.out 1
                       go_wp2
                       go_roundg k6
                       case measure => have := HK1.out; have := HJ23.out; have := HJ41.out; have := HK4.out; have := HJ60.out; have := HK6.out; omega
                       case rel => exact ⟨(IntKind.u64.wrap (x16_6 * ((rd_T65 t251 x161_4).f0))), (wrap64 (x19_6 + 1)), (by first | rfl | (simp; done) | (simp [*]; done)), (by first | rfl | (simp; done) | (simp [*]; done)), H', ⟨by have := HK1.out; have := HJ23.out; have := HJ41.out; have := HK4.out; have := HJ60.out; have := HK6.out; omega⟩, ⟨by (with_reducible repeat (first | apply Kd.R_alloc | apply Kd.R_drewN | apply Kd.R_drew)); exact HO_12.out⟩, ⟨by (with_reducible repeat (first | apply Kd.R_alloc | apply Kd.R_drewN | apply Kd.R_drew)); exact HO_159.out⟩, ⟨by (with_reducible repeat (first | refine blk_drewN ?_ _ | refine blk_drew ?_ | refine blk_alloc ?_ _)); exact BK212.out⟩, ⟨by (with_reducible repeat (first | refine blk_drewN ?_ _ | refine blk_drew ?_ | refine blk_alloc ?_ _)); exact BK255.out⟩, ⟨bel_⟩⟩
                      ·rw [if_neg c90] at H
                       have c90b0 := decide_eq_false c90
                       clear c90
                       have H' := Aside0.mk H
                       clear H
                       have hnb93 := NB255_212.out
                       have hnc93 := NB212_255.out
                       have hcz94_0 : wr.cell? ⟨gb255, 0, none⟩ = some (.int .u64 ((rd_T65 t251 x161_4).f0)) := (blk_cell BK255.out 0).trans rfl
                       have hcz94_1 : wr.cell? ⟨gb255, 1, none⟩ = some (.int .i64 ((rd_T65 t251 x161_4).f1)) := (blk_cell BK255.out 1).trans rfl
                       have hfz94_0 := blk_frozen BK255.out 0
                       have hfz94_1 := blk_frozen BK255.out 1
                       go_wp2
                       go_roundg k6
                       case measure => have := HK1.out; have := HJ23.out; have := HJ41.out; have := HK4.out; have := HJ60.out; have := HK6.out; omega
                       case rel => exact ⟨(x16_6), (wrap64 (x161_4 + 1)), (by first | rfl | (simp; done) | (simp [*]; done)), (by first | rfl | (simp; done) | (simp [*]; done)), H', ⟨by have := HK1.out; have := HJ23.out; have := HJ41.out; have := HK4.out; have := HJ60.out; have := HK6.out; omega⟩, ⟨by (with_reducible repeat (first | apply Kd.R_alloc | apply Kd.R_drewN | apply Kd.R_drew)); exact HO_12.out⟩, ⟨by (with_reducible repeat (first | apply Kd.R_alloc | apply Kd.R_drewN | apply Kd.R_drew)); exact Kd.R_mono HO_159.out (fun _ hk => trivial)⟩, ⟨by (with_reducible repeat (first | refine blk_drewN ?_ _ | refine blk_drew ?_ | refine blk_alloc ?_ _)); exact BK212.out⟩, ⟨bel_⟩⟩
                ·rw [if_neg c60] at H
                 exact absurd H (by simp)
               ·rw [if_neg c59] at H
                exact absurd H (by simp)
              ·rw [if_neg c58] at H
               have c58b0 := decide_eq_false c58
               clear c58
               have hR_ := Option.some.inj H
               go_wp2
               go_ret
               exact ⟨by first | rfl | (simp [errW_none, errW_some] <;> rfl) | (simp [*, errW_none, errW_some] <;> rfl), bel_⟩
           ·rw [if_neg c53] at H
            have c53b0 := beq_eq_false_iff_ne.mpr c53
            have c53b1 := bne_iff_ne.mpr c53
            replace H := Option.bind_eq_some_iff.mp H
            obtain ⟨⟨t237, t238⟩, A950, H⟩ := H
            (try dsimp only at H)
            have A95 := Aside0.mk A950
            clear A950
            by_cases c96 : (x12_23.length : Int) = 0
            ·rw [if_pos c96] at H
             have c96b0 := beq_iff_eq.mpr c96
             have c96b1 := bne_eq_false_iff_eq.mpr c96
             have hT_HO_12 := pf_none_own HO_12.out (show x12_23.length = 0 by omega)
             clear c96
             replace H := Option.bind_eq_some_iff.mp H
             obtain ⟨t239, A970, H⟩ := H
             (try dsimp only at H)
             have A97 := Aside0.mk A970
             clear A970
             by_cases c98 : (t239.length : Int) = 0
             ·rw [if_pos c98] at H
              have c98b0 := beq_iff_eq.mpr c98
              have c98b1 := bne_eq_false_iff_eq.mpr c98
              clear c98
              by_cases c99 : t238 = 2
              ·rw [if_pos c99] at H
               have c99b0 := beq_iff_eq.mpr c99
               have c99b1 := bne_eq_false_iff_eq.mpr c99
               clear c99
               replace H := Option.bind_eq_some_iff.mp H
               obtain ⟨t242, A1000, H⟩ := H
               (try dsimp only at H)
               have A100 := Aside0.mk A1000
               clear A1000
               by_cases c101 : t242 = true
               ·subst c101
                have H1 := H; rw [if_pos rfl] at H1
                clear H
                have H := H1
                clear H1
                exact absurd H (by simp)
               ·replace c101 := Bool.eq_false_iff.mpr c101
                subst c101
                have H1 := H; rw [if_neg (show ¬ (false = true) by decide)] at H1
                clear H
                have H := H1
                clear H1
                replace H := Option.bind_eq_some_iff.mp H
                obtain ⟨t243, A1020, H⟩ := H
                (try dsimp only at H)
                have A102 := Aside0.mk A1020
                clear A1020
                replace H := Option.bind_eq_some_iff.mp H
                obtain ⟨t244, A1030, H⟩ := H
                (try dsimp only at H)
                have A103 := Aside0.mk A1030
                clear A1030
                replace H := Option.bind_eq_some_iff.mp H
                obtain ⟨t245, A1040, H⟩ := H
                (try dsimp only at H)
                have A104 := Aside0.mk A1040
                clear A1040
                replace H := Option.bind_eq_some_iff.mp H
                obtain ⟨t246, A1050, H⟩ := H
                (try dsimp only at H)
                have A105 := Aside0.mk A1050
                clear A1050
                replace H := Option.bind_eq_some_iff.mp H
                obtain ⟨t247, A1060, H⟩ := H
                (try dsimp only at H)
                have A106 := Aside0.mk A1060
                clear A1060
                replace H := Option.bind_eq_some_iff.mp H
                obtain ⟨t248, A1070, H⟩ := H
                (try dsimp only at H)
                have A107 := Aside0.mk A1070
                clear A1070
                replace H := Option.bind_eq_some_iff.mp H
                obtain ⟨t249, A1080, H⟩ := H
                (try dsimp only at H)
                have A108 := Aside0.mk A1080
                clear A1080
                replace H := Option.bind_eq_some_iff.mp H
                obtain ⟨t250, A1090, H⟩ := H
                (try dsimp only at H)
                have A109 := Aside0.mk A1090
                clear A1090
                have hR_ := Option.some.inj H
                obtain ⟨Ao110, co110, eo110⟩ := Kd.R_slice HO_12.out
                subst eo110
                go_wp2_with (first | ((with_reducible refine gate_callee (f := 14) rfl ?_); refine goesL_ (some 100) rfl rfl Try.func14 (by kernel_rfl) rfl #[toPtr (.slice Ao110 x12_23.length co110), .int .i64 a1] rfl (by (try simp only [List.map_toArray, List.map_cons, List.map_nil]); first | done | (rw [hT_HO_12] <;> rfl) | rfl | (simp only [List.length_drop, List.length_take]; rfl)) ?_; (with_reducible refine (field_Field_Root.calls _ _ x12_23 a1 t237 t238 _ ?side1 ?side2 A95.out).mono ?_); (case side1 => repeat (first | exact (Kd.R_reads' HO_12.out).2.2 | (with_reducible refine Kd.C_alloc ?_ _) | (with_reducible refine Kd.C_drewN ?_ _) | (with_reducible refine Kd.C_drew ?_))); (case side2 => exact (Kd.R_reads' HO_12.out).2.1); rintro e w' ⟨rfl, ⟨nd, rfl⟩⟩; refine ⟨_, rfl, ?_⟩) | (go_at_call 35; (try rw [← hT_HO_12]); (with_reducible refine (field_Field_Factors.calls _ _ x12_23 t239 _ ?side1 ?side2 A97.out).mono ?_); (case side1 => repeat (first | exact (Kd.R_reads' HO_12.out).2.2 | (with_reducible refine Kd.C_alloc ?_ _) | (with_reducible refine Kd.C_drewN ?_ _) | (with_reducible refine Kd.C_drew ?_))); (case side2 => exact (Kd.R_reads' HO_12.out).2.1); rintro e w111 ⟨v240, rfl, ho0, hb⟩; have n0_ := Aside0.mk (Kd.R_below (by (with_reducible repeat (first | apply Kd.R_alloc | apply Kd.R_drewN | apply Kd.R_drew)); exact HO_12.out) hb); have n1_ := Aside0.mk (Kd.R_lower ho0 (below_size bel_)); have n2_ := Aside0.mk (blk_below (g := gb212) (o := .cells #[.int .i64 a0_0, .int .i64 a0_1, .int .u64 a0_2, .slice A0_3 l0_3.length c0_3] 25 (0, 0)) (by (with_reducible repeat (first | refine blk_drewN ?_ _ | refine blk_drew ?_ | refine blk_alloc ?_ _)); exact BK212.out) hb); have n3_ := Aside0.mk (below_step bel_ hb); clear HO_12; clear BK212; clear HB; have HO_12 := n0_; have HO241 := n1_; have BK212 := n2_; have HB := n3_; clear n0_ n1_ n2_ n3_; (try clear hb); (try clear hb2); (try clear hk); (try clear hi); (try clear ho0); obtain ⟨Ao112, co112, eo112⟩ := Kd.R_slice HO241.out; subst eo112) | (go_at_call 15; (try rw [← hT_HO_12]); (with_reducible refine (field_Field_Divides.calls _ _ x12_23 a1 false _ ?side1 ?side2 A100.out).mono ?_); (case side1 => repeat (first | exact (Kd.R_reads' HO_12.out).2.2 | (with_reducible refine Kd.C_alloc ?_ _) | (with_reducible refine Kd.C_drewN ?_ _) | (with_reducible refine Kd.C_drew ?_))); (case side2 => exact (Kd.R_reads' HO_12.out).2.1); rintro e w' ⟨rfl, ⟨nd, rfl⟩⟩) | (go_at_call 18; (try rw [← hT_HO_12]); (with_reducible refine (field_Field_Add.calls _ _ x12_23 a2 a2 t243 _ ?side1 ?side2 A102.out).mono ?_); (case side1 => repeat (first | exact (Kd.R_reads' HO_12.out).2.2 | (with_reducible refine Kd.C_alloc ?_ _) | (with_reducible refine Kd.C_drewN ?_ _) | (with_reducible refine Kd.C_drew ?_))); (case side2 => exact (Kd.R_reads' HO_12.out).2.1); rintro e w' ⟨rfl, ⟨nd, rfl⟩⟩) | (go_at_call 36; (try rw [← hT_HO_12]); (with_reducible refine (field_Field_Sub.calls _ _ x12_23 a2 1 t244 _ ?side1 ?side2 A103.out).mono ?_); (case side1 => repeat (first | exact (Kd.R_reads' HO_12.out).2.2 | (with_reducible refine Kd.C_alloc ?_ _) | (with_reducible refine Kd.C_drewN ?_ _) | (with_reducible refine Kd.C_drew ?_))); (case side2 => exact (Kd.R_reads' HO_12.out).2.1); rintro e w' ⟨rfl, ⟨nd, rfl⟩⟩) | (go_at_call 37; (try rw [← hT_HO_12]); (with_reducible refine (field_Field_Neg.calls _ _ x12_23 a2 t245 _ ?side1 ?side2 A104.out).mono ?_); (case side1 => repeat (first | exact (Kd.R_reads' HO_12.out).2.2 | (with_reducible refine Kd.C_alloc ?_ _) | (with_reducible refine Kd.C_drewN ?_ _) | (with_reducible refine Kd.C_drew ?_))); (case side2 => exact (Kd.R_reads' HO_12.out).2.1); rintro e w' ⟨rfl, ⟨nd, rfl⟩⟩) | (go_at_call 19; (try rw [← hT_HO_12]); (with_reducible refine (field_Field_Mul.calls _ _ x12_23 a2 a2 t246 _ ?side1 ?side2 A105.out).mono ?_); (case side1 => repeat (first | exact (Kd.R_reads' HO_12.out).2.2 | (with_reducible refine Kd.C_alloc ?_ _) | (with_reducible refine Kd.C_drewN ?_ _) | (with_reducible refine Kd.C_drew ?_))); (case side2 => exact (Kd.R_reads' HO_12.out).2.1); rintro e w' ⟨rfl, ⟨nd, rfl⟩⟩) | (go_at_call 17; (try rw [← hT_HO_12]); (with_reducible refine (field_Field_Pow.calls _ _ x12_23 a2 0 t247 _ ?side1 ?side2 A106.out).mono ?_); (case side1 => repeat (first | exact (Kd.R_reads' HO_12.out).2.2 | (with_reducible refine Kd.C_alloc ?_ _) | (with_reducible refine Kd.C_drewN ?_ _) | (with_reducible refine Kd.C_drew ?_))); (case side2 => exact (Kd.R_reads' HO_12.out).2.1); rintro e w' ⟨rfl, ⟨nd, rfl⟩⟩) | (go_at_call 21; (try rw [← hT_HO_12]); (with_reducible refine (field_Field_Inv.calls _ _ x12_23 a2 t248 _ ?side1 ?side2 A107.out).mono ?_); (case side1 => repeat (first | exact (Kd.R_reads' HO_12.out).2.2 | (with_reducible refine Kd.C_alloc ?_ _) | (with_reducible refine Kd.C_drewN ?_ _) | (with_reducible refine Kd.C_drew ?_))); (case side2 => exact (Kd.R_reads' HO_12.out).2.1); rintro e w' ⟨rfl, ⟨nd, rfl⟩⟩) | (go_at_call 38; (try rw [← hT_HO_12]); (with_reducible refine (field_Field_Lift.calls _ _ x12_23 a2 t249 _ ?side1 ?side2 A108.out).mono ?_); (case side1 => repeat (first | exact (Kd.R_reads' HO_12.out).2.2 | (with_reducible refine Kd.C_alloc ?_ _) | (with_reducible refine Kd.C_drewN ?_ _) | (with_reducible refine Kd.C_drew ?_))); (case side2 => exact (Kd.R_reads' HO_12.out).2.1); rintro e w' ⟨rfl, ⟨nd, rfl⟩⟩) | (go_at_call 39; (try rw [← hT_HO_12]); (with_reducible refine (field_Field_Times.calls _ _ x12_23 a2 a2 t250 _ ?side1 ?side2 A109.out).mono ?_); (case side1 => repeat (first | exact (Kd.R_reads' HO_12.out).2.2 | (with_reducible refine Kd.C_alloc ?_ _) | (with_reducible refine Kd.C_drewN ?_ _) | (with_reducible refine Kd.C_drew ?_))); (case side2 => exact (Kd.R_reads' HO_12.out).2.1); rintro e w' ⟨rfl, ⟨nd, rfl⟩⟩))
                go_ret
                exact ⟨by first | rfl | (simp [errW_none, errW_some] <;> rfl) | (simp [*, errW_none, errW_some] <;> rfl), bel_⟩
              ·rw [if_neg c99] at H
               have c99b0 := beq_eq_false_iff_ne.mpr c99
               have c99b1 := bne_iff_ne.mpr c99
               exact absurd H (by simp)
             ·rw [if_neg c98] at H
              have c98b0 := beq_eq_false_iff_ne.mpr c98
              have c98b1 := bne_iff_ne.mpr c98
              have c98b2 : ¬ (t239 = []) := fun h_ => c98 (by rw [h_]; rfl)
              exact absurd H (by simp)
            ·rw [if_neg c96] at H
             have c96b0 := beq_eq_false_iff_ne.mpr c96
             have c96b1 := bne_iff_ne.mpr c96
             have c96b2 : ¬ (x12_23 = []) := fun h_ => c96 (by rw [h_]; rfl)
             obtain ⟨aT_HO_12, hT_HO_12⟩ := pf_some_own HO_12.out (show ¬ (x12_23.length = 0) by omega)
             exact absurd H (by simp)
 ·replace c5 := Bool.eq_false_iff.mpr c5
  subst c5
  have H1 := H; rw [if_neg (show ¬ (false = true) by decide)] at H1
  clear H
  have H := H1
  clear H1
  exact absurd H (by simp)
end Go.Proofs.Ythnpjjpdlihepaa.XF
end
section
namespace Go.Proofs.Ythnpjjpdlihepaa.F06.XF
open Go Go.RowKit Go.Proofs.YthnpjjpdlihepaaW.PrintWords Go.Proofs.YthnpjjpdlihepaaW.PrintLast Go.Proofs.YthnpjjpdlihepaaW.PrintMore Go.Proofs.Ythnpjjpdlihepaa.Given Go.Proofs.Ythnpjjpdlihepaa.M Go.Proofs.Ythnpjjpdlihepaa.Mont Go.Proofs.Ythnpjjpdlihepaa.XS Go.Proofs.Ythnpjjpdlihepaa.XT Go.Proofs.Ythnpjjpdlihepaa.XR Go.Proofs.Ythnpjjpdlihepaa.Num Go.Proofs.Ythnpjjpdlihepaa.XK Go.Proofs.Ythnpjjpdlihepaa.XF
abbrev PW := S65
theorem rdP_drop {R : List PW} {i : Nat} {x : PW} {l : List PW} (h : R.drop i = x :: l) : rd_T65 R (i : Int) = x ∧ i < R.length ∧ R.drop (i + 1) = l := by
  have hlt : i < R.length := by
    refine Classical.byContradiction fun c => ?_
    rw [List.drop_of_length_le (by omega)] at h
    cases h
  rw [List.drop_eq_getElem_cons hlt] at h
  injection h with h1 h2
  refine ⟨?_, hlt, h2⟩
  unfold rd_T65
  simp [List.getD, List.getElem?_eq_getElem hlt, h1]
theorem rdR_drop {R : List RE} {i : Nat} {x : RE} {l : List RE} (h : R.drop i = x :: l) : rd_T52 R (i : Int) = x ∧ i < R.length ∧ R.drop (i + 1) = l := by
  have hlt : i < R.length := by
    refine Classical.byContradiction fun c => ?_
    rw [List.drop_of_length_le (by omega)] at h
    cases h
  rw [List.drop_eq_getElem_cons hlt] at h
  injection h with h1 h2
  refine ⟨?_, hlt, h2⟩
  unfold rd_T52
  simp [List.getD, List.getElem?_eq_getElem hlt, h1]
theorem wmul (n q : Int) : IntKind.u64.wrap (IntKind.u64.wrap n * q) = IntKind.u64.wrap (n * q) := by
  rw [wu64, wu64, wu64, Int.mul_emod n q, Int.mul_emod (n % _) q, Int.emod_emod_of_dvd _ (Int.dvd_refl _)]
theorem mk_l2 {p n Q E : Int} {F : List Fld} {R : List PW} {len i : Int} {r : Bool} (hE : E ≤ 62)
    (H : Ev (fun k => epicyclelaw06_FieldMakes.l1 k p F (IntKind.u64.wrap (n * Q ^ E.toNat)) R len (wrap64 (i + 1))) r) (d : Nat) : ∀ j : Nat, j + d = E.toNat →
    Ev (fun k => epicyclelaw06_FieldMakes.l2 k p F (IntKind.u64.wrap (n * Q ^ j)) j R len i Q E) r := by
  induction d with
  | zero =>
    intro j h
    have c : ¬ (j : Int) < E := by omega
    have e : j = E.toNat := by omega
    rw [← e] at H
    refine Ev.step (fun k => ?_) H
    simp only [epicyclelaw06_FieldMakes.l2]
    rw [if_neg c]
  | succ d ih =>
    intro j h
    have c : (j : Int) < E := by omega
    have w : wrap64 ((j : Int) + 1) = ((j + 1 : Nat) : Int) := by rw [w64_id _ (by omega) (by omega)]; omega
    have m : IntKind.u64.wrap (IntKind.u64.wrap (n * Q ^ j) * Q) = IntKind.u64.wrap (n * Q ^ (j + 1)) := by rw [wmul, Int.mul_assoc, ← Int.pow_succ]
    refine Ev.step (fun k => ?_) (ih (j + 1) (by omega))
    simp only [epicyclelaw06_FieldMakes.l2]
    rw [if_pos c, m, w]
theorem mk_j4 {p n Q E : Int} {F : List Fld} {R : List PW} {len i : Int} {r : Bool} (hE : E ≤ 62)
    (H : Ev (fun k => epicyclelaw06_FieldMakes.l1 k p F (IntKind.u64.wrap (n * Q ^ E.toNat)) R len (wrap64 (i + 1))) r) :
    Ev (fun k => epicyclelaw06_FieldMakes.j4 k p F (IntKind.u64.wrap n) R len i false Q E) r := by
  have t := mk_l2 hE H E.toNat 0 (by omega)
  rw [Int.pow_zero, Int.mul_one] at t
  refine Ev.step (fun k => ?_) t
  simp only [epicyclelaw06_FieldMakes.j4]
  rw [if_neg (by decide)]
  rfl
theorem mk_l1 {A : Int → Bool} {p g : Int} {R : List PW} (h16 : R.length ≤ 16) (l : List PW) : ∀ (i : Nat) (q n : Int), R.drop i = l → 1 ≤ i → (rd_T65 R ((i - 1 : Nat) : Int)).f0 = q →
    i ≤ R.length → XR.wr A (p - 1) q (l.map p59) n = true → Ev (fun k => epicyclelaw06_FieldMakes.l1 k p [⟨p, g, R⟩] (IntKind.u64.wrap n) R (R.length : Int) i) true := by
  induction l with
  | nil =>
    intro i q n hd h1 hq hi h
    have hlen : R.length ≤ i := by have := congrArg List.length hd; simp at this; omega
    have c : ¬ (i : Int) < (R.length : Int) := by omega
    have e : n = p - 1 := by simpa [XR.wr] using h
    refine Ev.step (f := fun _ => some true) (fun k => ?_) (Ev.now _)
    simp only [epicyclelaw06_FieldMakes.l1]
    rw [if_neg c, e, beq_self_eq_true]
  | cons x l ih =>
    intro i q n hd h1 hq hi h
    obtain ⟨hx, hlt, hd'⟩ := rdP_drop hd
    simp only [List.map_cons, XR.wr, Bool.and_eq_true, decide_eq_true_eq] at h
    obtain ⟨⟨⟨hE1, hE⟩, hqx, _⟩, hw⟩ := h
    replace hE1 : 1 ≤ x.f1 := hE1
    replace hE : x.f1 ≤ 62 := hE
    replace hqx : q < x.f0 := hqx
    have c : (i : Int) < (R.length : Int) := by omega
    have c0 : 0 ≤ (i : Int) := by omega
    have ci : (i : Int) > 0 := by omega
    have wi : wrap64 ((i : Int) - 1) = ((i - 1 : Nat) : Int) := by rw [w64_id _ (by omega) (by omega)]; omega
    have w : wrap64 ((i : Int) + 1) = ((i + 1 : Nat) : Int) := by rw [w64_id _ (by omega) (by omega)]; omega
    have d0 : 0 ≤ ((i - 1 : Nat) : Int) := by omega
    have d1 : ((i - 1 : Nat) : Int) < (R.length : Int) := by omega
    have cq : ¬ q ≥ x.f0 := by omega
    have ce : ¬ x.f1 < 1 := by omega
    have cf : decide (x.f1 > 62) = false := decide_eq_false (by omega)
    have IH := ih (i + 1) x.f0 (n * x.f0 ^ x.f1.toNat) hd' (by omega) (by rw [Nat.add_sub_cancel, hx]) (by omega) hw
    rw [← w] at IH
    have J := mk_j4 hE IH
    have FF : field_Field_Factors.f [⟨p, g, R⟩] = some R := by
      have : R.length ≤ 1000000 := by omega
      exact if_pos this
    refine Ev.step (fun k => ?_) J
    simp only [epicyclelaw06_FieldMakes.l1]
    rw [if_pos c, if_pos c0, if_pos c, if_pos ci, FF]
    simp only [Option.bind_some]
    rw [wi, if_pos d0, if_pos d1, hq, hx, if_neg cq, if_neg ce, cf]
theorem mk_all {F : Fld} (hg : GoodFld F) : Ev (fun k => epicyclelaw06_FieldMakes.l1 k F.p [F] 1 F.l (F.l.length : Int) 0) true := by
  obtain ⟨A, h⟩ := hg.whole
  have h16 := hg.short
  obtain ⟨p, g, R⟩ := F
  replace h : XR.wholeS A p (R.map p59) = true := h
  replace h16 : R.length ≤ 16 := h16
  show Ev (fun k => epicyclelaw06_FieldMakes.l1 k p [⟨p, g, R⟩] 1 R (R.length : Int) 0) true
  cases R with
  | nil => cases h
  | cons x t =>
    rw [List.map_cons, XR.wholeS_cons] at h
    simp only [Bool.and_eq_true, decide_eq_true_eq, beq_iff_eq] at h
    obtain ⟨⟨⟨_, h2⟩, hE1, hE⟩, hw⟩ := h
    replace h2 : x.f0 = 2 := h2
    replace hE1 : 1 ≤ x.f1 := hE1
    replace hE : x.f1 ≤ 62 := hE
    have hx : rd_T65 (x :: t) 0 = x := rfl
    have c : (0 : Int) < (((x :: t).length : Nat) : Int) := by rw [List.length_cons]; omega
    have ce : ¬ x.f1 < 1 := by omega
    have cf : decide (x.f1 > 62) = false := decide_eq_false (by omega)
    have w : wrap64 ((0 : Int) + 1) = ((1 : Nat) : Int) := by rw [w64_id _ (by omega) (by omega)]; rfl
    have e : (1 : Int) * x.f0 ^ x.f1.toNat = 2 ^ x.f1.toNat := by rw [h2, Int.one_mul]
    have IH := mk_l1 (g := g) h16 t 1 2 (2 ^ x.f1.toNat) rfl (by omega) (by show x.f0 = 2; exact h2) (by rw [List.length_cons]; omega) hw
    rw [← w, ← e] at IH
    have J := mk_j4 hE IH
    refine Ev.step (fun k => ?_) J
    simp only [epicyclelaw06_FieldMakes.l1]
    rw [if_pos c, if_pos (by omega), if_pos c, if_neg (by omega), hx, if_neg ce, cf]
    rfl
theorem mk_good {F : Fld} (hg : GoodFld F) (n x : Int) : Ev (fun k => epicyclelaw06_FieldMakes.j1 k n x F.p F.g 0 [F] 0) true := by
  have h16 := hg.short
  have FF : field_Field_Factors.f [F] = some F.l := by
    have : F.l.length ≤ 1000000 := by omega
    exact if_pos this
  refine Ev.step (f := fun k => epicyclelaw06_FieldMakes.j2 k n x F.p 0 [F] false) (fun k => ?_) (Ev.step (f := fun k => epicyclelaw06_FieldMakes.l1 k F.p [F] 1 F.l (F.l.length : Int) 0) (fun k => ?_) (mk_all hg))
  · simp only [epicyclelaw06_FieldMakes.j1]
    rw [if_pos trivial]
    show (if F.p = F.p then (if F.g = F.g then epicyclelaw06_FieldMakes.j2 k n x F.p 0 [F] (decide (x < F.p) != decide (x < F.p)) else _) else _) = _
    rw [if_pos rfl, if_pos rfl, bne_self_eq_false]
  · simp only [epicyclelaw06_FieldMakes.j2]
    rw [if_neg (by decide), if_pos trivial, FF]
    rfl
theorem invF_zero (x : Int) : invF 0 x = 0 := invF_none (fun ⟨t, h0, h1, _⟩ => by omega)
theorem mk_bad {e : Int} (he : e ≠ 0) {n x : Int} (hn : I64 n) (hx : U x) : Ev (fun k => epicyclelaw06_FieldMakes.j1 k n x 0 0 e [] e) true := by
  have n1 : n < 9223372036854775808 := hn.2
  have n2 : n < 18446744073709551616 := by omega
  have u0 : U 0 := ⟨by omega, by omega⟩
  have cx : decide (x < 0) = false := decide_eq_false (by have := hx.1; omega)
  have R : field_Field_Root.f [] n = some (0, 2) := by unfold field_Field_Root.f; rw [if_pos n1]
  have D : field_Field_Divides.f [] n = some false := by unfold field_Field_Divides.f; rw [if_pos n2]
  have A1 : field_Field_Add.f [] x x = some 0 := by unfold field_Field_Add.f; rw [if_pos ⟨hx, hx⟩]
  have A2 : field_Field_Sub.f [] x 1 = some 0 := by unfold field_Field_Sub.f; rw [if_pos ⟨hx, ⟨by omega, by omega⟩⟩]
  have A3 : field_Field_Neg.f [] x = some 0 := by unfold field_Field_Neg.f; rw [if_pos hx]
  have A4 : field_Field_Mul.f [] x x = some 0 := by unfold field_Field_Mul.f; rw [if_pos ⟨hx, hx⟩]
  have A5 : field_Field_Pow.f [] x 0 = some 0 := by unfold field_Field_Pow.f; rw [if_pos ⟨hx, u0⟩]
  have A6 : field_Field_Inv.f [] x = some 0 := by unfold field_Field_Inv.f; rw [if_pos hx]; exact congrArg some (invF_zero x)
  have A7 : field_Field_Lift.f [] x = some 0 := by unfold field_Field_Lift.f; rw [if_pos hx]
  have A8 : field_Field_Times.f [] x x = some 0 := by unfold field_Field_Times.f; rw [if_pos ⟨hx, hx⟩]
  refine Ev.step (f := fun k => epicyclelaw06_FieldMakes.j2 k n x 0 e [] false) (fun k => ?_) (Ev.step (f := fun _ => some true) (fun k => ?_) (Ev.now _))
  · simp only [epicyclelaw06_FieldMakes.j1]
    rw [if_pos trivial]
    show epicyclelaw06_FieldMakes.j2 k n x 0 e [] (false != decide (x < 0)) = _
    rw [cx]
    rfl
  · simp only [epicyclelaw06_FieldMakes.j2]
    rw [if_neg (by decide), if_neg he, R, D, A1, A2, A3, A4, A5, A6, A7, A8]
    rfl
noncomputable def mkTail (k : Nat) (n x a b c : Int) (L : List RE) : Option Bool := (epicycleref06_Of.f k a b c L).bind fun bt216 => (if a = 0 then ((field_Small.f k c).bind fun bt219 => (epicyclelaw06_FieldMakes.j1 k n x bt216.1 bt216.2.1 bt216.2.2 bt219.1 bt219.2)) else (if a = 1 then ((field_Known.f k b).bind fun bt223 => (epicyclelaw06_FieldMakes.j1 k n x bt216.1 bt216.2.1 bt216.2.2 bt223.1 bt223.2)) else ((epicyclelaw06_rows.f k L).bind fun t227 => ((field_New.f k t227 c).bind fun bt230 => (epicyclelaw06_FieldMakes.j1 k n x bt216.1 bt216.2.1 bt216.2.2 bt230.1 bt230.2)))))
theorem mk_l0 {L : List RE} (hL : L.length < 3518437208883) {n x a b c : Int} (l : List RE) : ∀ i : Nat, L.drop i = l → ((∀ e ∈ l, (e.f2.length : Int) ≤ 20) → Ev (fun k => mkTail k n x a b c L) true) →
    Ev (fun k => epicyclelaw06_FieldMakes.l0 k n x L (L.length : Int) i a b c L) true := by
  induction l with
  | nil =>
    intro i hd H
    have hlen : L.length ≤ i := by have := congrArg List.length hd; simp at this; omega
    have cc : ¬ (i : Int) < (L.length : Int) := by omega
    refine Ev.step (fun k => ?_) (H (by simp))
    simp only [epicyclelaw06_FieldMakes.l0]
    rw [if_neg cc]
    rfl
  | cons y l ih =>
    intro i hd H
    obtain ⟨hx, hlt, hd'⟩ := rdR_drop hd
    have c1 : (i : Int) < (L.length : Int) := by omega
    have c0 : 0 ≤ (i : Int) := by omega
    have w : wrap64 ((i : Int) + 1) = ((i + 1 : Nat) : Int) := by rw [w64_id _ (by omega) (by omega)]; omega
    by_cases h20 : (y.f2.length : Int) > 20
    · refine Ev.step (f := fun _ => some true) (fun k => ?_) (Ev.now _)
      simp only [epicyclelaw06_FieldMakes.l0]
      rw [if_pos c1, if_pos c0, if_pos c1, hx, if_pos h20]
    · refine Ev.step (fun k => ?_) (ih (i + 1) hd' (fun h => H (fun e he => by
        rcases List.mem_cons.1 he with rfl | he
        · omega
        · exact h e he)))
      simp only [epicyclelaw06_FieldMakes.l0]
      rw [if_pos c1, if_pos c0, if_pos c1, hx, if_neg h20, w]
theorem makes_ev {L : List RE} (hL : okRow L) (kind K p : Int) {n x : Int} (hn : I64 n) (hx : U x) : Ev (fun k => epicyclelaw06_FieldMakes.f k kind K p L n x) true := by
  refine Ev.congr (fun k => rfl) (Ev.bind alive_ev (evP rfl ?_))
  by_cases h40 : (L.length : Int) > 40
  · exact evP h40 (Ev.now _)
  refine evN h40 (mk_l0 hL.1.1 L 0 rfl (fun h20 => ?_))
  by_cases h0 : kind = 0
  · subst h0
    by_cases hp : OddP p
    · obtain ⟨F, E, G, e, hg⟩ := small_odd hp
      have T := mk_good hg n x
      rw [e] at T
      exact Ev.congr (fun k => rfl) (Ev.bind ((of_small (L := L) (K := K)).1 hp _ G) (evP rfl (Ev.bind E T)))
    · exact Ev.congr (fun k => rfl) (Ev.bind ((of_small (L := L) (K := K)).2 hp) (evP rfl (Ev.bind (small_not hp) (mk_bad (by decide) hn hx))))
  by_cases h1 : kind = 1
  · subst h1
    by_cases hK : 0 ≤ K ∧ K ≤ 5
    · obtain ⟨F, E, e, hg⟩ := known_ev hK.1 hK.2
      have O := (of_known (L := L) (p := p)).1 hK
      rw [e] at O
      exact Ev.congr (fun k => rfl) (Ev.bind O (evN h0 (evP rfl (Ev.bind E (mk_good hg n x)))))
    · exact Ev.congr (fun k => rfl) (Ev.bind ((of_known (L := L) (p := p)).2 hK) (evN h0 (evP rfl (Ev.bind (known_not hK) (mk_bad (by decide) hn hx)))))
  have O := ofNew_ev hL (K := K) (p := p) h0 h1
  have R := rows_ev hL.1
  have E := new_ev (R := L.map cE) (by rw [map_tri]; exact hL.2) p
  rcases new_of hL p with ⟨e, he, hn', e', _, ho, hee⟩ | ⟨F, hn', ho, hg, hl⟩
  · have := hee (by omega) h20
    subst this
    rw [hn'] at E
    rw [ho] at O
    exact Ev.congr (fun k => rfl) (Ev.bind O (evN h0 (evN h1 (Ev.bind R (Ev.bind E (mk_bad he hn hx))))))
  · rw [hn'] at E
    rw [ho] at O
    exact Ev.congr (fun k => rfl) (Ev.bind O (evN h0 (evN h1 (Ev.bind R (Ev.bind E (mk_good hg n x))))))
end Go.Proofs.Ythnpjjpdlihepaa.F06.XF
end
