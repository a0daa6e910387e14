/- Parts of this claim's texts, packed by wip/tools/prune.py: what the proof does not reach is left out. -/
import Derived.Test.YthnpjjpdlihepaaPF6
section
namespace Go.Proofs.Ythnpjjpdlihepaa.XR
open Go.RowKit Go.Proofs.Ythnpjjpdlihepaa.Given Go.Proofs.Ythnpjjpdlihepaa.XS Go.Proofs.YthnpjjpdlihepaaW.PrintWords Go.Proofs.YthnpjjpdlihepaaW.PrintLast Go.Proofs.YthnpjjpdlihepaaW.PrintMore
attribute [local go_sem] max2_int min2_int max_two min_two max_three min_three max_four min_four   -- for this text's walks alone
set_option linter.unusedVariables false
set_option linter.unusedSimpArgs false
def epicycleref04_Check.l0 : Nat → List (S52) → Int → Int → Option (Int × Int)
 | 0, _, _, _ => none
 | k + 1, x0, x9, x10 => if x10 < x9 then ((epicycleref04_Right.f k x0 x10).bind fun t123 => (if t123 = true then (epicycleref04_Check.l0 k x0 x9 (wrap64 (x10 + 1))) else (some (x10, 3)))) else (some (0, 0))
def epicycleref04_Check.f (k : Nat) (l0 : List (S52)) : Option (Int × Int) := if (l0.length : Int) > 32 then (some (0, 13)) else (epicycleref04_Check.l0 k l0 (l0.length : Int) 0)
set_option maxHeartbeats 8000000 in
set_option maxRecDepth 100000 in
theorem epicycleref04_Check.calls (k : Nat) (A0 : Option Addr) (c0 : Nat) (l0 : List (S52)) (r1 : Int) (r2 : Int) (w : World) (hr0 : Kd.C k52 w A0 l0.length l0) (hc0 : l0.length ≤ c0) (h : epicycleref04_Check.f k l0 = some (r1, r2)) :
  Calls Try.prog 53 #[.slice A0 l0.length c0] w fun e w' => e = .returned (.tuple #[.int .i64 r1, .int .i64 r2]) ∧ Below w.heap.size w w' := by
 have HR0 := Aside0.mk hr0
 have HC0 := Aside0.mk hc0
 clear hr0 hc0
 have HB := Aside0.mk (Below.refl w.heap.size w)
 have H : (if (l0.length : Int) > 32 then (some (0, 13)) else (epicycleref04_Check.l0 k l0 (l0.length : Int) 0)) = some (r1, r2) := h
 clear h
 by_cases c2 : (l0.length : Int) > 32
 ·rw [if_pos c2] at H
  have c2b0 : decide (32 < (l0.length : Int)) = true := decide_eq_true c2
  have c2b1 : decide (32 < l0.length) = true := decide_eq_true (by omega)
  clear c2
  simp only [Option.some.injEq, Prod.mk.injEq] at H
  obtain ⟨rfl, rfl⟩ := H
  go_enter Try.func53, Try.ntmps53
  go_wp2
  go_ret2
  exact ⟨by first | rfl | (simp [errW_none, errW_some] <;> rfl) | (simp [*, errW_none, errW_some] <;> rfl), by repeat (first | (with_reducible first | exact HB.out | apply below_alloc | apply pw_below_drewN | apply below_drew1) | exact HB.out)⟩
 ·rw [if_neg c2] at H
  have c2b0 : decide (32 < (l0.length : Int)) = false := decide_eq_false c2
  have c2b1 : decide (32 < l0.length) = false := decide_eq_false (by omega)
  clear c2
  have H' := Aside0.mk H
  clear H
  go_enter Try.func53, Try.ntmps53
  go_wp2
  go_loopg [10] k (fun kq v10 w' => ∃ (x10_1 : Int), v10 = .int .i64 x10_1 ∧ Aside0 (epicycleref04_Check.l0 kq l0 (l0.length : Int) x10_1 = some (r1, r2)) ∧ Aside0 (kq ≤ k) ∧ Aside0 (Below w.heap.size w w'))
  case atStart => exact ⟨(0), (by first | rfl | (simp; done) | (simp [*]; done)), H', ⟨Nat.le_refl _⟩, ⟨by repeat (first | (with_reducible first | exact HB.out | apply below_alloc | apply pw_below_drewN | apply below_drew1) | exact HB.out)⟩⟩
  case round =>
   clear H'
   try clear c2
   try clear c2b0
   try clear c2b1
   try clear p2
   obtain ⟨x10_1, rfl, HA, HK1, HB⟩ := hrel
   cases gk with
   | zero => exact absurd HA.out (by simp [epicycleref04_Check.l0])
   | succ k1 =>
    have H := HA.out
    clear HA
    simp only [epicycleref04_Check.l0] at H
    by_cases c3 : x10_1 < (l0.length : Int)
    ·rw [if_pos c3] at H
     have c3b0 : decide (x10_1 < (l0.length : Int)) = true := decide_eq_true c3
     clear c3
     replace H := Option.bind_eq_some_iff.mp H
     obtain ⟨t123, A40, H⟩ := H
     replace H : (if t123 = true then (epicycleref04_Check.l0 k1 l0 (l0.length : Int) (wrap64 (x10_1 + 1))) else (some (x10_1, 3))) = some (r1, r2) := H
     have A4 := Aside0.mk A40
     clear A40
     by_cases c5 : t123 = true
     ·subst c5
      have H1 : (epicycleref04_Check.l0 k1 l0 (l0.length : Int) (wrap64 (x10_1 + 1))) = some (r1, r2) := by rw [if_pos rfl] at H <;> exact H
      clear H
      have H := H1
      clear H1
      have H' := Aside0.mk H
      clear H
      go_wp2_with (first | ((with_reducible refine gate_callee (f := 70) rfl ?_); refine goesL_ (some 15) rfl rfl Try.func70 (by kernel_rfl) rfl #[.slice A0 l0.length c0, .int .i64 x10_1] rfl (by (try simp only [List.map_toArray, List.map_cons, List.map_nil]); first | done | rfl | (simp only [List.length_drop, List.length_take]; rfl)) ?_; (with_reducible refine (epicycleref04_Right.calls k1 _ _ l0 x10_1 true _ ?side1 ?side2 A4.out).mono ?_); (case side1 => repeat (first | exact (Kd.C_below HR0.out HB.out) | (with_reducible refine Kd.C_alloc ?_ _) | (with_reducible refine Kd.C_drewN ?_ _) | (with_reducible refine Kd.C_drew ?_))); (case side2 => exact HC0.out); rintro e w6 ⟨rfl, hb⟩; refine ⟨_, rfl, ?_⟩; have n0_ := Aside0.mk (below_step (by repeat (first | (with_reducible first | exact HB.out | apply below_alloc | apply pw_below_drewN | apply below_drew1) | exact HB.out)) hb); clear HB; have HB := n0_; clear n0_; (try clear hb); (try clear hb2); (try clear hk); (try clear hi)))
      go_roundg k1
      case measure => have := HK1.out; omega
      case rel => exact ⟨(wrap64 (x10_1 + 1)), (by first | rfl | (simp; done) | (simp [*]; done)), H', ⟨by have := HK1.out; omega⟩, ⟨by repeat (first | (with_reducible first | exact HB.out | apply below_alloc | apply pw_below_drewN | apply below_drew1) | exact HB.out)⟩⟩
     ·replace c5 := Bool.eq_false_iff.mpr c5
      subst c5
      have H1 : (some (x10_1, 3)) = some (r1, r2) := by rw [if_neg (show ¬ (false = true) by decide)] at H <;> exact H
      clear H
      have H := H1
      clear H1
      simp only [Option.some.injEq, Prod.mk.injEq] at H
      obtain ⟨rfl, rfl⟩ := H
      go_wp2_with (first | ((with_reducible refine gate_callee (f := 70) rfl ?_); refine goesL_ (some 15) rfl rfl Try.func70 (by kernel_rfl) rfl #[.slice A0 l0.length c0, .int .i64 x10_1] rfl (by (try simp only [List.map_toArray, List.map_cons, List.map_nil]); first | done | rfl | (simp only [List.length_drop, List.length_take]; rfl)) ?_; (with_reducible refine (epicycleref04_Right.calls k1 _ _ l0 x10_1 false _ ?side1 ?side2 A4.out).mono ?_); (case side1 => repeat (first | exact (Kd.C_below HR0.out HB.out) | (with_reducible refine Kd.C_alloc ?_ _) | (with_reducible refine Kd.C_drewN ?_ _) | (with_reducible refine Kd.C_drew ?_))); (case side2 => exact HC0.out); rintro e w7 ⟨rfl, hb⟩; refine ⟨_, rfl, ?_⟩; have n0_ := Aside0.mk (below_step (by repeat (first | (with_reducible first | exact HB.out | apply below_alloc | apply pw_below_drewN | apply below_drew1) | exact HB.out)) hb); clear HB; have HB := n0_; clear n0_; (try clear hb); (try clear hb2); (try clear hk); (try clear hi)))
      go_ret2
      exact ⟨by first | rfl | (simp [errW_none, errW_some] <;> rfl) | (simp [*, errW_none, errW_some] <;> rfl), by repeat (first | (with_reducible first | exact HB.out | apply below_alloc | apply pw_below_drewN | apply below_drew1) | exact HB.out)⟩
    ·rw [if_neg c3] at H
     have c3b0 : decide (x10_1 < (l0.length : Int)) = false := decide_eq_false c3
     clear c3
     simp only [Option.some.injEq, Prod.mk.injEq] at H
     obtain ⟨rfl, rfl⟩ := H
     go_wp2
     go_ret2
     exact ⟨by first | rfl | (simp [errW_none, errW_some] <;> rfl) | (simp [*, errW_none, errW_some] <;> rfl), by repeat (first | (with_reducible first | exact HB.out | apply below_alloc | apply pw_below_drewN | apply below_drew1) | exact HB.out)⟩
end Go.Proofs.Ythnpjjpdlihepaa.XR
end
section

end
section
namespace Go.Proofs.Ythnpjjpdlihepaa.XO
open Go.RowKit Go.Proofs.Ythnpjjpdlihepaa.Given Go.Proofs.Ythnpjjpdlihepaa.XS Go.Proofs.Ythnpjjpdlihepaa.XR Go.Proofs.YthnpjjpdlihepaaW.PrintWords Go.Proofs.YthnpjjpdlihepaaW.PrintLast Go.Proofs.YthnpjjpdlihepaaW.PrintMore
attribute [local go_sem] max2_int min2_int max_two min_two max_three min_three max_four min_four   -- for this text's walks alone
set_option linter.unusedVariables false
set_option linter.unusedSimpArgs false
mutual
def epicycleref06_Of.j0 : Nat → Bool → Option (Int × Int × Int)
 | 0, _ => none
 | k + 1, x35 => if x35 = true then (some (0, 0, 1)) else (none)
def epicycleref06_Of.l0 : Nat → List (S52) → Int → Int → Int → Int → Int → List (S52) → Option (Int × Int × Int)
 | 0, _, _, _, _, _, _, _ => none
 | k + 1, x51, x52, x53, x102000, x102001, x102002, x102003 => if x53 < x52 then (if 0 ≤ x53 then (if x53 < (x51.length : Int) then (if (((rd_T52 x51 x53).f2).length : Int) > 20 then (some (0, 0, 3)) else (epicycleref06_Of.l0 k x51 x52 (wrap64 (x53 + 1)) x102000 x102001 x102002 x102003)) else (none)) else (none)) else ((epicycleref04_Check.f k x102003).bind fun bt106 => (if bt106.2 = 0 then (epicycleref06_Of.l1 k x102003 (x102003.length : Int) 0 x102000 x102001 x102002 x102003) else (some (0, 0, bt106.2))))
def epicycleref06_Of.l1 : Nat → List (S52) → Int → Int → Int → Int → Int → List (S52) → Option (Int × Int × Int)
 | 0, _, _, _, _, _, _, _ => none
 | k + 1, x72, x73, x74, x102000, x102001, x102002, x102003 => if x74 < x73 then (if 0 ≤ x74 then (if x74 < (x72.length : Int) then (if ((rd_T52 x72 x74).f0) = x102002 then (some ((rd_T52 x72 x74).f0, (rd_T52 x72 x74).f1, 0)) else (epicycleref06_Of.l1 k x72 x73 (wrap64 (x74 + 1)) x102000 x102001 x102002 x102003)) else (none)) else (none)) else (some (0, 0, 14))
end
def epicycleref06_Of.f (k : Nat) (a0_0 : Int) (a0_1 : Int) (a0_2 : Int) (l0_3 : List (S52)) : Option (Int × Int × Int) := if a0_0 = 0 then ((epicycleref05_Odd.f k a0_2).bind fun t102 => (if t102 = true then ((epicycleref05_Generator.f k a0_2).bind fun t103 => (some (a0_2, t103, 0))) else (some (0, 0, 1)))) else (if a0_0 = 1 then (if a0_1 < 0 then (epicycleref06_Of.j0 k true) else (epicycleref06_Of.j0 k (decide (a0_1 > 5)))) else (if (l0_3.length : Int) > 40 then (some (0, 0, 13)) else (epicycleref06_Of.l0 k l0_3 (l0_3.length : Int) 0 a0_0 a0_1 a0_2 l0_3)))
set_option maxHeartbeats 8000000 in
set_option maxRecDepth 100000 in
theorem epicycleref06_Of.calls (k : Nat) (a0_0 : Int) (a0_1 : Int) (a0_2 : Int) (A0_3 : Option Addr) (c0_3 : Nat) (l0_3 : List (S52)) (r1 : Int) (r2 : Int) (r3 : Int) (w : World) (hr0_3 : Kd.C k52 w A0_3 l0_3.length l0_3) (hc0_3 : l0_3.length ≤ c0_3) (h : epicycleref06_Of.f k a0_0 a0_1 a0_2 l0_3 = some (r1, r2, r3)) :
  Calls Try.prog 28 #[.agg #[.int .i64 a0_0, .int .i64 a0_1, .int .u64 a0_2, .slice A0_3 l0_3.length c0_3]] w fun e w' => e = .returned (.tuple #[.int .u64 r1, .int .u64 r2, .int .i64 r3]) ∧ Below w.heap.size w w' := by
 have hu25 := Try.underlying25
 have hu52 := Try.underlying52
 have HR0_3 := Aside0.mk hr0_3
 have HC0_3 := Aside0.mk hc0_3
 clear hr0_3 hc0_3
 have HB := Aside0.mk (Below.refl w.heap.size w)
 have H : (if a0_0 = 0 then ((epicycleref05_Odd.f k a0_2).bind fun t102 => (if t102 = true then ((epicycleref05_Generator.f k a0_2).bind fun t103 => (some (a0_2, t103, 0))) else (some (0, 0, 1)))) else (if a0_0 = 1 then (if a0_1 < 0 then (epicycleref06_Of.j0 k true) else (epicycleref06_Of.j0 k (decide (a0_1 > 5)))) else (if (l0_3.length : Int) > 40 then (some (0, 0, 13)) else (epicycleref06_Of.l0 k l0_3 (l0_3.length : Int) 0 a0_0 a0_1 a0_2 l0_3)))) = some (r1, r2, r3) := h
 clear h
 by_cases c2 : a0_0 = 0
 ·rw [if_pos c2] at H
  have c2b0 : (a0_0 == 0) = true := beq_iff_eq.mpr c2
  have c2b1 : (a0_0 != 0) = false := bne_eq_false_iff_eq.mpr c2
  clear c2
  replace H := Option.bind_eq_some_iff.mp H
  obtain ⟨t102, A30, H⟩ := H
  replace H : (if t102 = true then ((epicycleref05_Generator.f k a0_2).bind fun t103 => (some (a0_2, t103, 0))) else (some (0, 0, 1))) = some (r1, r2, r3) := H
  have A3 := Aside0.mk A30
  clear A30
  by_cases c4 : t102 = true
  ·subst c4
   have H1 : ((epicycleref05_Generator.f k a0_2).bind fun t103 => (some (a0_2, t103, 0))) = some (r1, r2, r3) := by rw [if_pos rfl] at H <;> exact H
   clear H
   have H := H1
   clear H1
   replace H := Option.bind_eq_some_iff.mp H
   obtain ⟨t103, A50, H⟩ := H
   replace H : (some (a0_2, t103, 0)) = some (r1, r2, r3) := H
   have A5 := Aside0.mk A50
   clear A50
   simp only [Option.some.injEq, Prod.mk.injEq] at H
   obtain ⟨rfl, rfl, rfl⟩ := H
   go_enter Try.func28, Try.ntmps28
   go_wp2_with (first | ((with_reducible refine gate_dst (N := 1) rfl ?_); refine box_event ?hg (N := 1) ?hd (cs := #[.int .i64 a0_0, .int .i64 a0_1, .int .u64 a0_2, .slice A0_3 l0_3.length c0_3]) (t := 25) ?hr ?_; (case hd => rfl); (case hg => rfl); (case hr => first | (go_simp; done) | (go_simp; rfl)); intro gb101 hg w6 hbox hb; have n0_ := Aside0.mk (below_step (by repeat (first | (with_reducible first | exact HB.out | apply below_alloc | apply pw_below_drewN | apply below_drew1) | exact HB.out)) hb); have n1_ := Aside0.mk (hbox); have n2_ := Aside0.mk ((by rw [hg]; exact (below_size (by repeat (first | (with_reducible first | exact HB.out | apply below_alloc | apply pw_below_drewN | apply below_drew1) | exact HB.out))) : w.heap.size ≤ gb101)); have n3_ := Aside0.mk ((by rw [hg]; exact (below_size (by repeat (first | (with_reducible first | exact HB.out | apply below_alloc | apply pw_below_drewN | apply below_drew1) | exact HB.out))) : w.heap.size ≤ gb101)); clear HB; have HB := n0_; have BK101 := n1_; have GW101 := n2_; have GE101 := n3_; clear n0_ n1_ n2_ n3_; clear hb hbox hg; have hcz7_0 : w6.cell? ⟨gb101, 0, none⟩ = some (.int .i64 a0_0) := (blk_cell BK101.out 0).trans rfl; have hcz7_1 : w6.cell? ⟨gb101, 1, none⟩ = some (.int .i64 a0_1) := (blk_cell BK101.out 1).trans rfl; have hcz7_2 : w6.cell? ⟨gb101, 2, none⟩ = some (.int .u64 a0_2) := (blk_cell BK101.out 2).trans rfl; have hcz7_3 : w6.cell? ⟨gb101, 3, none⟩ = some (.slice A0_3 l0_3.length c0_3) := (blk_cell BK101.out 3).trans rfl; have hfz7_0 := blk_frozen BK101.out 0; have hfz7_1 := blk_frozen BK101.out 1; have hfz7_2 := blk_frozen BK101.out 2; have hfz7_3 := blk_frozen BK101.out 3) | (go_at_call 51; (with_reducible refine (epicycleref05_Odd.calls k a0_2 true _ A3.out).mono ?_); rintro e w' ⟨rfl, ⟨nd, rfl⟩⟩; (try first | exact ⟨rfl, _, World.drewN_drewN _ _ _⟩ | exact ⟨rfl, _, Eq.trans (World.drewN_drewN _ _ _) (congrArg (World.drewN _) (Nat.add_assoc _ _ _))⟩)) | (go_at_call 52; (with_reducible refine (epicycleref05_Generator.calls k a0_2 t103 _ A5.out).mono ?_); rintro e w' ⟨rfl, ⟨nd, rfl⟩⟩; (try first | exact ⟨rfl, _, World.drewN_drewN _ _ _⟩ | exact ⟨rfl, _, Eq.trans (World.drewN_drewN _ _ _) (congrArg (World.drewN _) (Nat.add_assoc _ _ _))⟩)))
   repeat (go_quiet (first | ((with_reducible refine gate_dst (N := 1) rfl ?_); refine box_event ?hg (N := 1) ?hd (cs := #[.int .i64 a0_0, .int .i64 a0_1, .int .u64 a0_2, .slice A0_3 l0_3.length c0_3]) (t := 25) ?hr ?_; (case hd => rfl); (case hg => rfl); (case hr => first | (go_simp; done) | (go_simp; rfl)); intro gb101 hg w6 hbox hb; have n0_ := Aside0.mk (below_step (by repeat (first | (with_reducible first | exact HB.out | apply below_alloc | apply pw_below_drewN | apply below_drew1) | exact HB.out)) hb); have n1_ := Aside0.mk (hbox); have n2_ := Aside0.mk ((by rw [hg]; exact (below_size (by repeat (first | (with_reducible first | exact HB.out | apply below_alloc | apply pw_below_drewN | apply below_drew1) | exact HB.out))) : w.heap.size ≤ gb101)); have n3_ := Aside0.mk ((by rw [hg]; exact (below_size (by repeat (first | (with_reducible first | exact HB.out | apply below_alloc | apply pw_below_drewN | apply below_drew1) | exact HB.out))) : w.heap.size ≤ gb101)); clear HB; have HB := n0_; have BK101 := n1_; have GW101 := n2_; have GE101 := n3_; clear n0_ n1_ n2_ n3_; clear hb hbox hg; have hcz7_0 : w6.cell? ⟨gb101, 0, none⟩ = some (.int .i64 a0_0) := (blk_cell BK101.out 0).trans rfl; have hcz7_1 : w6.cell? ⟨gb101, 1, none⟩ = some (.int .i64 a0_1) := (blk_cell BK101.out 1).trans rfl; have hcz7_2 : w6.cell? ⟨gb101, 2, none⟩ = some (.int .u64 a0_2) := (blk_cell BK101.out 2).trans rfl; have hcz7_3 : w6.cell? ⟨gb101, 3, none⟩ = some (.slice A0_3 l0_3.length c0_3) := (blk_cell BK101.out 3).trans rfl; have hfz7_0 := blk_frozen BK101.out 0; have hfz7_1 := blk_frozen BK101.out 1; have hfz7_2 := blk_frozen BK101.out 2; have hfz7_3 := blk_frozen BK101.out 3) | (go_at_call 51; (with_reducible refine (epicycleref05_Odd.calls k a0_2 true _ A3.out).mono ?_); rintro e w' ⟨rfl, ⟨nd, rfl⟩⟩; (try first | exact ⟨rfl, _, World.drewN_drewN _ _ _⟩ | exact ⟨rfl, _, Eq.trans (World.drewN_drewN _ _ _) (congrArg (World.drewN _) (Nat.add_assoc _ _ _))⟩)) | (go_at_call 52; (with_reducible refine (epicycleref05_Generator.calls k a0_2 t103 _ A5.out).mono ?_); rintro e w' ⟨rfl, ⟨nd, rfl⟩⟩; (try first | exact ⟨rfl, _, World.drewN_drewN _ _ _⟩ | exact ⟨rfl, _, Eq.trans (World.drewN_drewN _ _ _) (congrArg (World.drewN _) (Nat.add_assoc _ _ _))⟩))); try go_wp2_with (first | ((with_reducible refine gate_dst (N := 1) rfl ?_); refine box_event ?hg (N := 1) ?hd (cs := #[.int .i64 a0_0, .int .i64 a0_1, .int .u64 a0_2, .slice A0_3 l0_3.length c0_3]) (t := 25) ?hr ?_; (case hd => rfl); (case hg => rfl); (case hr => first | (go_simp; done) | (go_simp; rfl)); intro gb101 hg w6 hbox hb; have n0_ := Aside0.mk (below_step (by repeat (first | (with_reducible first | exact HB.out | apply below_alloc | apply pw_below_drewN | apply below_drew1) | exact HB.out)) hb); have n1_ := Aside0.mk (hbox); have n2_ := Aside0.mk ((by rw [hg]; exact (below_size (by repeat (first | (with_reducible first | exact HB.out | apply below_alloc | apply pw_below_drewN | apply below_drew1) | exact HB.out))) : w.heap.size ≤ gb101)); have n3_ := Aside0.mk ((by rw [hg]; exact (below_size (by repeat (first | (with_reducible first | exact HB.out | apply below_alloc | apply pw_below_drewN | apply below_drew1) | exact HB.out))) : w.heap.size ≤ gb101)); clear HB; have HB := n0_; have BK101 := n1_; have GW101 := n2_; have GE101 := n3_; clear n0_ n1_ n2_ n3_; clear hb hbox hg; have hcz7_0 : w6.cell? ⟨gb101, 0, none⟩ = some (.int .i64 a0_0) := (blk_cell BK101.out 0).trans rfl; have hcz7_1 : w6.cell? ⟨gb101, 1, none⟩ = some (.int .i64 a0_1) := (blk_cell BK101.out 1).trans rfl; have hcz7_2 : w6.cell? ⟨gb101, 2, none⟩ = some (.int .u64 a0_2) := (blk_cell BK101.out 2).trans rfl; have hcz7_3 : w6.cell? ⟨gb101, 3, none⟩ = some (.slice A0_3 l0_3.length c0_3) := (blk_cell BK101.out 3).trans rfl; have hfz7_0 := blk_frozen BK101.out 0; have hfz7_1 := blk_frozen BK101.out 1; have hfz7_2 := blk_frozen BK101.out 2; have hfz7_3 := blk_frozen BK101.out 3) | (go_at_call 51; (with_reducible refine (epicycleref05_Odd.calls k a0_2 true _ A3.out).mono ?_); rintro e w' ⟨rfl, ⟨nd, rfl⟩⟩; (try first | exact ⟨rfl, _, World.drewN_drewN _ _ _⟩ | exact ⟨rfl, _, Eq.trans (World.drewN_drewN _ _ _) (congrArg (World.drewN _) (Nat.add_assoc _ _ _))⟩)) | (go_at_call 52; (with_reducible refine (epicycleref05_Generator.calls k a0_2 t103 _ A5.out).mono ?_); rintro e w' ⟨rfl, ⟨nd, rfl⟩⟩; (try first | exact ⟨rfl, _, World.drewN_drewN _ _ _⟩ | exact ⟨rfl, _, Eq.trans (World.drewN_drewN _ _ _) (congrArg (World.drewN _) (Nat.add_assoc _ _ _))⟩))))
   go_ret3
   exact ⟨by first | rfl | (simp [errW_none, errW_some] <;> rfl) | (simp [*, errW_none, errW_some] <;> rfl), by repeat (first | (with_reducible first | exact HB.out | apply below_alloc | apply pw_below_drewN | apply below_drew1 | refine below_set ?_ GE101.out) | exact HB.out)⟩
  ·replace c4 := Bool.eq_false_iff.mpr c4
   subst c4
   have H1 : (some (0, 0, 1)) = some (r1, r2, r3) := by rw [if_neg (show ¬ (false = true) by decide)] at H <;> exact H
   clear H
   have H := H1
   clear H1
   simp only [Option.some.injEq, Prod.mk.injEq] at H
   obtain ⟨rfl, rfl, rfl⟩ := H
   go_enter Try.func28, Try.ntmps28
   go_wp2_with (first | ((with_reducible refine gate_dst (N := 1) rfl ?_); refine box_event ?hg (N := 1) ?hd (cs := #[.int .i64 a0_0, .int .i64 a0_1, .int .u64 a0_2, .slice A0_3 l0_3.length c0_3]) (t := 25) ?hr ?_; (case hd => rfl); (case hg => rfl); (case hr => first | (go_simp; done) | (go_simp; rfl)); intro gb101 hg w8 hbox hb; have n0_ := Aside0.mk (below_step (by repeat (first | (with_reducible first | exact HB.out | apply below_alloc | apply pw_below_drewN | apply below_drew1) | exact HB.out)) hb); have n1_ := Aside0.mk (hbox); have n2_ := Aside0.mk ((by rw [hg]; exact (below_size (by repeat (first | (with_reducible first | exact HB.out | apply below_alloc | apply pw_below_drewN | apply below_drew1) | exact HB.out))) : w.heap.size ≤ gb101)); have n3_ := Aside0.mk ((by rw [hg]; exact (below_size (by repeat (first | (with_reducible first | exact HB.out | apply below_alloc | apply pw_below_drewN | apply below_drew1) | exact HB.out))) : w.heap.size ≤ gb101)); clear HB; have HB := n0_; have BK101 := n1_; have GW101 := n2_; have GE101 := n3_; clear n0_ n1_ n2_ n3_; clear hb hbox hg; have hcz9_0 : w8.cell? ⟨gb101, 0, none⟩ = some (.int .i64 a0_0) := (blk_cell BK101.out 0).trans rfl; have hcz9_1 : w8.cell? ⟨gb101, 1, none⟩ = some (.int .i64 a0_1) := (blk_cell BK101.out 1).trans rfl; have hcz9_2 : w8.cell? ⟨gb101, 2, none⟩ = some (.int .u64 a0_2) := (blk_cell BK101.out 2).trans rfl; have hcz9_3 : w8.cell? ⟨gb101, 3, none⟩ = some (.slice A0_3 l0_3.length c0_3) := (blk_cell BK101.out 3).trans rfl; have hfz9_0 := blk_frozen BK101.out 0; have hfz9_1 := blk_frozen BK101.out 1; have hfz9_2 := blk_frozen BK101.out 2; have hfz9_3 := blk_frozen BK101.out 3) | (go_at_call 51; (with_reducible refine (epicycleref05_Odd.calls k a0_2 false _ A3.out).mono ?_); rintro e w' ⟨rfl, ⟨nd, rfl⟩⟩; (try first | exact ⟨rfl, _, World.drewN_drewN _ _ _⟩ | exact ⟨rfl, _, Eq.trans (World.drewN_drewN _ _ _) (congrArg (World.drewN _) (Nat.add_assoc _ _ _))⟩)))
   repeat (go_quiet (first | ((with_reducible refine gate_dst (N := 1) rfl ?_); refine box_event ?hg (N := 1) ?hd (cs := #[.int .i64 a0_0, .int .i64 a0_1, .int .u64 a0_2, .slice A0_3 l0_3.length c0_3]) (t := 25) ?hr ?_; (case hd => rfl); (case hg => rfl); (case hr => first | (go_simp; done) | (go_simp; rfl)); intro gb101 hg w8 hbox hb; have n0_ := Aside0.mk (below_step (by repeat (first | (with_reducible first | exact HB.out | apply below_alloc | apply pw_below_drewN | apply below_drew1) | exact HB.out)) hb); have n1_ := Aside0.mk (hbox); have n2_ := Aside0.mk ((by rw [hg]; exact (below_size (by repeat (first | (with_reducible first | exact HB.out | apply below_alloc | apply pw_below_drewN | apply below_drew1) | exact HB.out))) : w.heap.size ≤ gb101)); have n3_ := Aside0.mk ((by rw [hg]; exact (below_size (by repeat (first | (with_reducible first | exact HB.out | apply below_alloc | apply pw_below_drewN | apply below_drew1) | exact HB.out))) : w.heap.size ≤ gb101)); clear HB; have HB := n0_; have BK101 := n1_; have GW101 := n2_; have GE101 := n3_; clear n0_ n1_ n2_ n3_; clear hb hbox hg; have hcz9_0 : w8.cell? ⟨gb101, 0, none⟩ = some (.int .i64 a0_0) := (blk_cell BK101.out 0).trans rfl; have hcz9_1 : w8.cell? ⟨gb101, 1, none⟩ = some (.int .i64 a0_1) := (blk_cell BK101.out 1).trans rfl; have hcz9_2 : w8.cell? ⟨gb101, 2, none⟩ = some (.int .u64 a0_2) := (blk_cell BK101.out 2).trans rfl; have hcz9_3 : w8.cell? ⟨gb101, 3, none⟩ = some (.slice A0_3 l0_3.length c0_3) := (blk_cell BK101.out 3).trans rfl; have hfz9_0 := blk_frozen BK101.out 0; have hfz9_1 := blk_frozen BK101.out 1; have hfz9_2 := blk_frozen BK101.out 2; have hfz9_3 := blk_frozen BK101.out 3) | (go_at_call 51; (with_reducible refine (epicycleref05_Odd.calls k a0_2 false _ A3.out).mono ?_); rintro e w' ⟨rfl, ⟨nd, rfl⟩⟩; (try first | exact ⟨rfl, _, World.drewN_drewN _ _ _⟩ | exact ⟨rfl, _, Eq.trans (World.drewN_drewN _ _ _) (congrArg (World.drewN _) (Nat.add_assoc _ _ _))⟩))); try go_wp2_with (first | ((with_reducible refine gate_dst (N := 1) rfl ?_); refine box_event ?hg (N := 1) ?hd (cs := #[.int .i64 a0_0, .int .i64 a0_1, .int .u64 a0_2, .slice A0_3 l0_3.length c0_3]) (t := 25) ?hr ?_; (case hd => rfl); (case hg => rfl); (case hr => first | (go_simp; done) | (go_simp; rfl)); intro gb101 hg w8 hbox hb; have n0_ := Aside0.mk (below_step (by repeat (first | (with_reducible first | exact HB.out | apply below_alloc | apply pw_below_drewN | apply below_drew1) | exact HB.out)) hb); have n1_ := Aside0.mk (hbox); have n2_ := Aside0.mk ((by rw [hg]; exact (below_size (by repeat (first | (with_reducible first | exact HB.out | apply below_alloc | apply pw_below_drewN | apply below_drew1) | exact HB.out))) : w.heap.size ≤ gb101)); have n3_ := Aside0.mk ((by rw [hg]; exact (below_size (by repeat (first | (with_reducible first | exact HB.out | apply below_alloc | apply pw_below_drewN | apply below_drew1) | exact HB.out))) : w.heap.size ≤ gb101)); clear HB; have HB := n0_; have BK101 := n1_; have GW101 := n2_; have GE101 := n3_; clear n0_ n1_ n2_ n3_; clear hb hbox hg; have hcz9_0 : w8.cell? ⟨gb101, 0, none⟩ = some (.int .i64 a0_0) := (blk_cell BK101.out 0).trans rfl; have hcz9_1 : w8.cell? ⟨gb101, 1, none⟩ = some (.int .i64 a0_1) := (blk_cell BK101.out 1).trans rfl; have hcz9_2 : w8.cell? ⟨gb101, 2, none⟩ = some (.int .u64 a0_2) := (blk_cell BK101.out 2).trans rfl; have hcz9_3 : w8.cell? ⟨gb101, 3, none⟩ = some (.slice A0_3 l0_3.length c0_3) := (blk_cell BK101.out 3).trans rfl; have hfz9_0 := blk_frozen BK101.out 0; have hfz9_1 := blk_frozen BK101.out 1; have hfz9_2 := blk_frozen BK101.out 2; have hfz9_3 := blk_frozen BK101.out 3) | (go_at_call 51; (with_reducible refine (epicycleref05_Odd.calls k a0_2 false _ A3.out).mono ?_); rintro e w' ⟨rfl, ⟨nd, rfl⟩⟩; (try first | exact ⟨rfl, _, World.drewN_drewN _ _ _⟩ | exact ⟨rfl, _, Eq.trans (World.drewN_drewN _ _ _) (congrArg (World.drewN _) (Nat.add_assoc _ _ _))⟩))))
   go_ret3
   exact ⟨by first | rfl | (simp [errW_none, errW_some] <;> rfl) | (simp [*, errW_none, errW_some] <;> rfl), by repeat (first | (with_reducible first | exact HB.out | apply below_alloc | apply pw_below_drewN | apply below_drew1 | refine below_set ?_ GE101.out) | exact HB.out)⟩
 ·rw [if_neg c2] at H
  have c2b0 : (a0_0 == 0) = false := beq_eq_false_iff_ne.mpr c2
  have c2b1 : (a0_0 != 0) = true := bne_iff_ne.mpr c2
  by_cases c10 : a0_0 = 1
  ·rw [if_pos c10] at H
   have c10b0 : (a0_0 == 1) = true := beq_iff_eq.mpr c10
   have c10b1 : (a0_0 != 1) = false := bne_eq_false_iff_eq.mpr c10
   clear c10
   have HC11 := Aside0.mk H
   clear H
   go_enter Try.func28, Try.ntmps28
   go_upto_region 7 with (first | ((with_reducible refine gate_dst (N := 1) rfl ?_); refine box_event ?hg (N := 1) ?hd (cs := #[.int .i64 a0_0, .int .i64 a0_1, .int .u64 a0_2, .slice A0_3 l0_3.length c0_3]) (t := 25) ?hr ?_; (case hd => rfl); (case hg => rfl); (case hr => first | (go_simp; done) | (go_simp; rfl)); intro gb101 hg w12 hbox hb; have n0_ := Aside0.mk (below_step (by repeat (first | (with_reducible first | exact HB.out | apply below_alloc | apply pw_below_drewN | apply below_drew1) | exact HB.out)) hb); have n1_ := Aside0.mk (hbox); have n2_ := Aside0.mk ((by rw [hg]; exact (below_size (by repeat (first | (with_reducible first | exact HB.out | apply below_alloc | apply pw_below_drewN | apply below_drew1) | exact HB.out))) : w.heap.size ≤ gb101)); have n3_ := Aside0.mk ((by rw [hg]; exact (below_size (by repeat (first | (with_reducible first | exact HB.out | apply below_alloc | apply pw_below_drewN | apply below_drew1) | exact HB.out))) : w.heap.size ≤ gb101)); clear HB; have HB := n0_; have BK101 := n1_; have GW101 := n2_; have GE101 := n3_; clear n0_ n1_ n2_ n3_; clear hb hbox hg; have hcz13_0 : w12.cell? ⟨gb101, 0, none⟩ = some (.int .i64 a0_0) := (blk_cell BK101.out 0).trans rfl; have hcz13_1 : w12.cell? ⟨gb101, 1, none⟩ = some (.int .i64 a0_1) := (blk_cell BK101.out 1).trans rfl; have hcz13_2 : w12.cell? ⟨gb101, 2, none⟩ = some (.int .u64 a0_2) := (blk_cell BK101.out 2).trans rfl; have hcz13_3 : w12.cell? ⟨gb101, 3, none⟩ = some (.slice A0_3 l0_3.length c0_3) := (blk_cell BK101.out 3).trans rfl; have hfz13_0 := blk_frozen BK101.out 0; have hfz13_1 := blk_frozen BK101.out 1; have hfz13_2 := blk_frozen BK101.out 2; have hfz13_3 := blk_frozen BK101.out 3))
   repeat (go_quiet (first | ((with_reducible refine gate_dst (N := 1) rfl ?_); refine box_event ?hg (N := 1) ?hd (cs := #[.int .i64 a0_0, .int .i64 a0_1, .int .u64 a0_2, .slice A0_3 l0_3.length c0_3]) (t := 25) ?hr ?_; (case hd => rfl); (case hg => rfl); (case hr => first | (go_simp; done) | (go_simp; rfl)); intro gb101 hg w12 hbox hb; have n0_ := Aside0.mk (below_step (by repeat (first | (with_reducible first | exact HB.out | apply below_alloc | apply pw_below_drewN | apply below_drew1) | exact HB.out)) hb); have n1_ := Aside0.mk (hbox); have n2_ := Aside0.mk ((by rw [hg]; exact (below_size (by repeat (first | (with_reducible first | exact HB.out | apply below_alloc | apply pw_below_drewN | apply below_drew1) | exact HB.out))) : w.heap.size ≤ gb101)); have n3_ := Aside0.mk ((by rw [hg]; exact (below_size (by repeat (first | (with_reducible first | exact HB.out | apply below_alloc | apply pw_below_drewN | apply below_drew1) | exact HB.out))) : w.heap.size ≤ gb101)); clear HB; have HB := n0_; have BK101 := n1_; have GW101 := n2_; have GE101 := n3_; clear n0_ n1_ n2_ n3_; clear hb hbox hg; have hcz13_0 : w12.cell? ⟨gb101, 0, none⟩ = some (.int .i64 a0_0) := (blk_cell BK101.out 0).trans rfl; have hcz13_1 : w12.cell? ⟨gb101, 1, none⟩ = some (.int .i64 a0_1) := (blk_cell BK101.out 1).trans rfl; have hcz13_2 : w12.cell? ⟨gb101, 2, none⟩ = some (.int .u64 a0_2) := (blk_cell BK101.out 2).trans rfl; have hcz13_3 : w12.cell? ⟨gb101, 3, none⟩ = some (.slice A0_3 l0_3.length c0_3) := (blk_cell BK101.out 3).trans rfl; have hfz13_0 := blk_frozen BK101.out 0; have hfz13_1 := blk_frozen BK101.out 1; have hfz13_2 := blk_frozen BK101.out 2; have hfz13_3 := blk_frozen BK101.out 3)); go_upto_region 7 with (first | ((with_reducible refine gate_dst (N := 1) rfl ?_); refine box_event ?hg (N := 1) ?hd (cs := #[.int .i64 a0_0, .int .i64 a0_1, .int .u64 a0_2, .slice A0_3 l0_3.length c0_3]) (t := 25) ?hr ?_; (case hd => rfl); (case hg => rfl); (case hr => first | (go_simp; done) | (go_simp; rfl)); intro gb101 hg w12 hbox hb; have n0_ := Aside0.mk (below_step (by repeat (first | (with_reducible first | exact HB.out | apply below_alloc | apply pw_below_drewN | apply below_drew1) | exact HB.out)) hb); have n1_ := Aside0.mk (hbox); have n2_ := Aside0.mk ((by rw [hg]; exact (below_size (by repeat (first | (with_reducible first | exact HB.out | apply below_alloc | apply pw_below_drewN | apply below_drew1) | exact HB.out))) : w.heap.size ≤ gb101)); have n3_ := Aside0.mk ((by rw [hg]; exact (below_size (by repeat (first | (with_reducible first | exact HB.out | apply below_alloc | apply pw_below_drewN | apply below_drew1) | exact HB.out))) : w.heap.size ≤ gb101)); clear HB; have HB := n0_; have BK101 := n1_; have GW101 := n2_; have GE101 := n3_; clear n0_ n1_ n2_ n3_; clear hb hbox hg; have hcz13_0 : w12.cell? ⟨gb101, 0, none⟩ = some (.int .i64 a0_0) := (blk_cell BK101.out 0).trans rfl; have hcz13_1 : w12.cell? ⟨gb101, 1, none⟩ = some (.int .i64 a0_1) := (blk_cell BK101.out 1).trans rfl; have hcz13_2 : w12.cell? ⟨gb101, 2, none⟩ = some (.int .u64 a0_2) := (blk_cell BK101.out 2).trans rfl; have hcz13_3 : w12.cell? ⟨gb101, 3, none⟩ = some (.slice A0_3 l0_3.length c0_3) := (blk_cell BK101.out 3).trans rfl; have hfz13_0 := blk_frozen BK101.out 0; have hfz13_1 := blk_frozen BK101.out 1; have hfz13_2 := blk_frozen BK101.out 2; have hfz13_3 := blk_frozen BK101.out 3)))
   (try simp only [Act.put, List.setIfInBounds_toArray, List.set_cons_zero, List.set_cons_succ])
   go_cut [35] (fun v35 wc => ∃ (kq : Nat) (x35_10 : Bool), v35 = .bool x35_10 ∧ Aside0 (epicycleref06_Of.j0 kq x35_10 = some (r1, r2, r3)) ∧ Aside0 (kq ≤ k) ∧ Aside0 (wc.heap[gb101]? = some (.cells #[.int .i64 a0_0, .int .i64 a0_1, .int .u64 a0_2, (.slice A0_3 l0_3.length c0_3)] 25 (0, 0))) ∧ Aside0 (Below w.heap.size w wc))
   case first =>
    have H := HC11.out
    clear HC11
    by_cases c14 : a0_1 < 0
    ·rw [if_pos c14] at H
     have c14b0 : decide (a0_1 < 0) = true := decide_eq_true c14
     clear c14
     (first | rw [c14b0] | (simp only [i64_w, i32_w]; rw [c14b0]) | skip)
     have H' := Aside0.mk H
     clear H
     have hcz15_0 : w12.cell? ⟨gb101, 0, none⟩ = some (.int .i64 a0_0) := (blk_cell BK101.out 0).trans rfl
     have hcz15_1 : w12.cell? ⟨gb101, 1, none⟩ = some (.int .i64 a0_1) := (blk_cell BK101.out 1).trans rfl
     have hcz15_2 : w12.cell? ⟨gb101, 2, none⟩ = some (.int .u64 a0_2) := (blk_cell BK101.out 2).trans rfl
     have hcz15_3 : w12.cell? ⟨gb101, 3, none⟩ = some (.slice A0_3 l0_3.length c0_3) := (blk_cell BK101.out 3).trans rfl
     have hfz15_0 := blk_frozen BK101.out 0
     have hfz15_1 := blk_frozen BK101.out 1
     have hfz15_2 := blk_frozen BK101.out 2
     have hfz15_3 := blk_frozen BK101.out 3
     go_wp2
     repeat (go_quiet (fail); try go_wp2)
     go_meet
     case rel => exact ⟨_, (true), (by first | rfl | (simp; done) | (simp [*]; done)), H', ⟨by first | omega | exact Nat.le_refl _⟩, ⟨by (with_reducible repeat (first | refine blk_drewN ?_ _ | refine blk_drew ?_ | refine blk_alloc ?_ _)); exact BK101.out⟩, ⟨by repeat (first | (with_reducible first | exact HB.out | apply below_alloc | apply pw_below_drewN | apply below_drew1 | refine below_set ?_ GE101.out) | exact HB.out)⟩⟩
    ·rw [if_neg c14] at H
     have c14b0 : decide (a0_1 < 0) = false := decide_eq_false c14
     clear c14
     (first | rw [c14b0] | (simp only [i64_w, i32_w]; rw [c14b0]) | skip)
     have H' := Aside0.mk H
     clear H
     have hcz16_0 : w12.cell? ⟨gb101, 0, none⟩ = some (.int .i64 a0_0) := (blk_cell BK101.out 0).trans rfl
     have hcz16_1 : w12.cell? ⟨gb101, 1, none⟩ = some (.int .i64 a0_1) := (blk_cell BK101.out 1).trans rfl
     have hcz16_2 : w12.cell? ⟨gb101, 2, none⟩ = some (.int .u64 a0_2) := (blk_cell BK101.out 2).trans rfl
     have hcz16_3 : w12.cell? ⟨gb101, 3, none⟩ = some (.slice A0_3 l0_3.length c0_3) := (blk_cell BK101.out 3).trans rfl
     have hfz16_0 := blk_frozen BK101.out 0
     have hfz16_1 := blk_frozen BK101.out 1
     have hfz16_2 := blk_frozen BK101.out 2
     have hfz16_3 := blk_frozen BK101.out 3
     go_wp2
     repeat (go_quiet (fail); try go_wp2)
     go_meet
     case rel => exact ⟨_, (decide (a0_1 > 5)), (by first | rfl | (simp; done) | (simp [*]; done)), H', ⟨by first | omega | exact Nat.le_refl _⟩, ⟨by (with_reducible repeat (first | refine blk_drewN ?_ _ | refine blk_drew ?_ | refine blk_alloc ?_ _)); exact BK101.out⟩, ⟨by repeat (first | (with_reducible first | exact HB.out | apply below_alloc | apply pw_below_drewN | apply below_drew1 | refine below_set ?_ GE101.out) | exact HB.out)⟩⟩
   case rest =>
    clear HC11
    try clear c1
    try clear c2
    try clear c2b0
    try clear c2b1
    try clear p2
    try clear c4
    try clear c10
    try clear c10b0
    try clear c10b1
    try clear c14
    try clear c14b0
    try clear hcz13_0
    try clear hcz13_1
    try clear hcz13_2
    try clear hcz13_3
    try clear hcz15_0
    try clear hcz15_1
    try clear hcz15_2
    try clear hcz15_3
    try clear hcz16_0
    try clear hcz16_1
    try clear hcz16_2
    try clear hcz16_3
    try clear hcz7_0
    try clear hcz7_1
    try clear hcz7_2
    try clear hcz7_3
    try clear hcz9_0
    try clear hcz9_1
    try clear hcz9_2
    try clear hcz9_3
    try clear hfz13_0
    try clear hfz13_1
    try clear hfz13_2
    try clear hfz13_3
    try clear hfz15_0
    try clear hfz15_1
    try clear hfz15_2
    try clear hfz15_3
    try clear hfz16_0
    try clear hfz16_1
    try clear hfz16_2
    try clear hfz16_3
    try clear hfz7_0
    try clear hfz7_1
    try clear hfz7_2
    try clear hfz7_3
    try clear hfz9_0
    try clear hfz9_1
    try clear hfz9_2
    try clear hfz9_3
    obtain ⟨kq, x35_10, rfl, HA, HJ10, BK101, HB⟩ := hcut
    cases kq with
    | zero => exact absurd HA.out (by simp [epicycleref06_Of.j0])
    | succ kj10 =>
     have H := HA.out
     clear HA
     simp only [epicycleref06_Of.j0] at H
     by_cases c17 : x35_10 = true
     ·subst c17
      have H1 : (some (0, 0, 1)) = some (r1, r2, r3) := by rw [if_pos rfl] at H <;> exact H
      clear H
      have H := H1
      clear H1
      simp only [Option.some.injEq, Prod.mk.injEq] at H
      obtain ⟨rfl, rfl, rfl⟩ := H
      go_wp2
      repeat (go_quiet (fail); try go_wp2)
      go_ret3
      exact ⟨by first | rfl | (simp [errW_none, errW_some] <;> rfl) | (simp [*, errW_none, errW_some] <;> rfl), by repeat (first | (with_reducible first | exact HB.out | apply below_alloc | apply pw_below_drewN | apply below_drew1 | refine below_set ?_ GE101.out) | exact HB.out)⟩
     ·replace c17 := Bool.eq_false_iff.mpr c17
      subst c17
      have H1 : (none) = some (r1, r2, r3) := by rw [if_neg (show ¬ (false = true) by decide)] at H <;> exact H
      clear H
      have H := H1
      clear H1
      exact absurd H (by simp)
  ·rw [if_neg c10] at H
   have c10b0 : (a0_0 == 1) = false := beq_eq_false_iff_ne.mpr c10
   have c10b1 : (a0_0 != 1) = true := bne_iff_ne.mpr c10
   by_cases c18 : (l0_3.length : Int) > 40
   ·rw [if_pos c18] at H
    have c18b0 : decide (40 < (l0_3.length : Int)) = true := decide_eq_true c18
    have c18b1 : decide (40 < l0_3.length) = true := decide_eq_true (by omega)
    clear c18
    simp only [Option.some.injEq, Prod.mk.injEq] at H
    obtain ⟨rfl, rfl, rfl⟩ := H
    go_enter Try.func28, Try.ntmps28
    go_wp2_with (first | ((with_reducible refine gate_dst (N := 1) rfl ?_); refine box_event ?hg (N := 1) ?hd (cs := #[.int .i64 a0_0, .int .i64 a0_1, .int .u64 a0_2, .slice A0_3 l0_3.length c0_3]) (t := 25) ?hr ?_; (case hd => rfl); (case hg => rfl); (case hr => first | (go_simp; done) | (go_simp; rfl)); intro gb101 hg w19 hbox hb; have n0_ := Aside0.mk (below_step (by repeat (first | (with_reducible first | exact HB.out | apply below_alloc | apply pw_below_drewN | apply below_drew1) | exact HB.out)) hb); have n1_ := Aside0.mk (hbox); have n2_ := Aside0.mk ((by rw [hg]; exact (below_size (by repeat (first | (with_reducible first | exact HB.out | apply below_alloc | apply pw_below_drewN | apply below_drew1) | exact HB.out))) : w.heap.size ≤ gb101)); have n3_ := Aside0.mk ((by rw [hg]; exact (below_size (by repeat (first | (with_reducible first | exact HB.out | apply below_alloc | apply pw_below_drewN | apply below_drew1) | exact HB.out))) : w.heap.size ≤ gb101)); clear HB; have HB := n0_; have BK101 := n1_; have GW101 := n2_; have GE101 := n3_; clear n0_ n1_ n2_ n3_; clear hb hbox hg; have hcz20_0 : w19.cell? ⟨gb101, 0, none⟩ = some (.int .i64 a0_0) := (blk_cell BK101.out 0).trans rfl; have hcz20_1 : w19.cell? ⟨gb101, 1, none⟩ = some (.int .i64 a0_1) := (blk_cell BK101.out 1).trans rfl; have hcz20_2 : w19.cell? ⟨gb101, 2, none⟩ = some (.int .u64 a0_2) := (blk_cell BK101.out 2).trans rfl; have hcz20_3 : w19.cell? ⟨gb101, 3, none⟩ = some (.slice A0_3 l0_3.length c0_3) := (blk_cell BK101.out 3).trans rfl; have hfz20_0 := blk_frozen BK101.out 0; have hfz20_1 := blk_frozen BK101.out 1; have hfz20_2 := blk_frozen BK101.out 2; have hfz20_3 := blk_frozen BK101.out 3))
    repeat (go_quiet (first | ((with_reducible refine gate_dst (N := 1) rfl ?_); refine box_event ?hg (N := 1) ?hd (cs := #[.int .i64 a0_0, .int .i64 a0_1, .int .u64 a0_2, .slice A0_3 l0_3.length c0_3]) (t := 25) ?hr ?_; (case hd => rfl); (case hg => rfl); (case hr => first | (go_simp; done) | (go_simp; rfl)); intro gb101 hg w19 hbox hb; have n0_ := Aside0.mk (below_step (by repeat (first | (with_reducible first | exact HB.out | apply below_alloc | apply pw_below_drewN | apply below_drew1) | exact HB.out)) hb); have n1_ := Aside0.mk (hbox); have n2_ := Aside0.mk ((by rw [hg]; exact (below_size (by repeat (first | (with_reducible first | exact HB.out | apply below_alloc | apply pw_below_drewN | apply below_drew1) | exact HB.out))) : w.heap.size ≤ gb101)); have n3_ := Aside0.mk ((by rw [hg]; exact (below_size (by repeat (first | (with_reducible first | exact HB.out | apply below_alloc | apply pw_below_drewN | apply below_drew1) | exact HB.out))) : w.heap.size ≤ gb101)); clear HB; have HB := n0_; have BK101 := n1_; have GW101 := n2_; have GE101 := n3_; clear n0_ n1_ n2_ n3_; clear hb hbox hg; have hcz20_0 : w19.cell? ⟨gb101, 0, none⟩ = some (.int .i64 a0_0) := (blk_cell BK101.out 0).trans rfl; have hcz20_1 : w19.cell? ⟨gb101, 1, none⟩ = some (.int .i64 a0_1) := (blk_cell BK101.out 1).trans rfl; have hcz20_2 : w19.cell? ⟨gb101, 2, none⟩ = some (.int .u64 a0_2) := (blk_cell BK101.out 2).trans rfl; have hcz20_3 : w19.cell? ⟨gb101, 3, none⟩ = some (.slice A0_3 l0_3.length c0_3) := (blk_cell BK101.out 3).trans rfl; have hfz20_0 := blk_frozen BK101.out 0; have hfz20_1 := blk_frozen BK101.out 1; have hfz20_2 := blk_frozen BK101.out 2; have hfz20_3 := blk_frozen BK101.out 3)); try go_wp2_with (first | ((with_reducible refine gate_dst (N := 1) rfl ?_); refine box_event ?hg (N := 1) ?hd (cs := #[.int .i64 a0_0, .int .i64 a0_1, .int .u64 a0_2, .slice A0_3 l0_3.length c0_3]) (t := 25) ?hr ?_; (case hd => rfl); (case hg => rfl); (case hr => first | (go_simp; done) | (go_simp; rfl)); intro gb101 hg w19 hbox hb; have n0_ := Aside0.mk (below_step (by repeat (first | (with_reducible first | exact HB.out | apply below_alloc | apply pw_below_drewN | apply below_drew1) | exact HB.out)) hb); have n1_ := Aside0.mk (hbox); have n2_ := Aside0.mk ((by rw [hg]; exact (below_size (by repeat (first | (with_reducible first | exact HB.out | apply below_alloc | apply pw_below_drewN | apply below_drew1) | exact HB.out))) : w.heap.size ≤ gb101)); have n3_ := Aside0.mk ((by rw [hg]; exact (below_size (by repeat (first | (with_reducible first | exact HB.out | apply below_alloc | apply pw_below_drewN | apply below_drew1) | exact HB.out))) : w.heap.size ≤ gb101)); clear HB; have HB := n0_; have BK101 := n1_; have GW101 := n2_; have GE101 := n3_; clear n0_ n1_ n2_ n3_; clear hb hbox hg; have hcz20_0 : w19.cell? ⟨gb101, 0, none⟩ = some (.int .i64 a0_0) := (blk_cell BK101.out 0).trans rfl; have hcz20_1 : w19.cell? ⟨gb101, 1, none⟩ = some (.int .i64 a0_1) := (blk_cell BK101.out 1).trans rfl; have hcz20_2 : w19.cell? ⟨gb101, 2, none⟩ = some (.int .u64 a0_2) := (blk_cell BK101.out 2).trans rfl; have hcz20_3 : w19.cell? ⟨gb101, 3, none⟩ = some (.slice A0_3 l0_3.length c0_3) := (blk_cell BK101.out 3).trans rfl; have hfz20_0 := blk_frozen BK101.out 0; have hfz20_1 := blk_frozen BK101.out 1; have hfz20_2 := blk_frozen BK101.out 2; have hfz20_3 := blk_frozen BK101.out 3)))
    go_ret3
    exact ⟨by first | rfl | (simp [errW_none, errW_some] <;> rfl) | (simp [*, errW_none, errW_some] <;> rfl), by repeat (first | (with_reducible first | exact HB.out | apply below_alloc | apply pw_below_drewN | apply below_drew1 | refine below_set ?_ GE101.out) | exact HB.out)⟩
   ·rw [if_neg c18] at H
    have c18b0 : decide (40 < (l0_3.length : Int)) = false := decide_eq_false c18
    have c18b1 : decide (40 < l0_3.length) = false := decide_eq_false (by omega)
    clear c18
    have H' := Aside0.mk H
    clear H
    go_enter Try.func28, Try.ntmps28
    go_wp2_with (first | ((with_reducible refine gate_dst (N := 1) rfl ?_); refine box_event ?hg (N := 1) ?hd (cs := #[.int .i64 a0_0, .int .i64 a0_1, .int .u64 a0_2, .slice A0_3 l0_3.length c0_3]) (t := 25) ?hr ?_; (case hd => rfl); (case hg => rfl); (case hr => first | (go_simp; done) | (go_simp; rfl)); intro gb101 hg w21 hbox hb; have n0_ := Aside0.mk (below_step (by repeat (first | (with_reducible first | exact HB.out | apply below_alloc | apply pw_below_drewN | apply below_drew1) | exact HB.out)) hb); have n1_ := Aside0.mk (hbox); have n2_ := Aside0.mk ((by rw [hg]; exact (below_size (by repeat (first | (with_reducible first | exact HB.out | apply below_alloc | apply pw_below_drewN | apply below_drew1) | exact HB.out))) : w.heap.size ≤ gb101)); have n3_ := Aside0.mk ((by rw [hg]; exact (below_size (by repeat (first | (with_reducible first | exact HB.out | apply below_alloc | apply pw_below_drewN | apply below_drew1) | exact HB.out))) : w.heap.size ≤ gb101)); clear HB; have HB := n0_; have BK101 := n1_; have GW101 := n2_; have GE101 := n3_; clear n0_ n1_ n2_ n3_; clear hb hbox hg; have hcz22_0 : w21.cell? ⟨gb101, 0, none⟩ = some (.int .i64 a0_0) := (blk_cell BK101.out 0).trans rfl; have hcz22_1 : w21.cell? ⟨gb101, 1, none⟩ = some (.int .i64 a0_1) := (blk_cell BK101.out 1).trans rfl; have hcz22_2 : w21.cell? ⟨gb101, 2, none⟩ = some (.int .u64 a0_2) := (blk_cell BK101.out 2).trans rfl; have hcz22_3 : w21.cell? ⟨gb101, 3, none⟩ = some (.slice A0_3 l0_3.length c0_3) := (blk_cell BK101.out 3).trans rfl; have hfz22_0 := blk_frozen BK101.out 0; have hfz22_1 := blk_frozen BK101.out 1; have hfz22_2 := blk_frozen BK101.out 2; have hfz22_3 := blk_frozen BK101.out 3))
    repeat (go_quiet (first | ((with_reducible refine gate_dst (N := 1) rfl ?_); refine box_event ?hg (N := 1) ?hd (cs := #[.int .i64 a0_0, .int .i64 a0_1, .int .u64 a0_2, .slice A0_3 l0_3.length c0_3]) (t := 25) ?hr ?_; (case hd => rfl); (case hg => rfl); (case hr => first | (go_simp; done) | (go_simp; rfl)); intro gb101 hg w21 hbox hb; have n0_ := Aside0.mk (below_step (by repeat (first | (with_reducible first | exact HB.out | apply below_alloc | apply pw_below_drewN | apply below_drew1) | exact HB.out)) hb); have n1_ := Aside0.mk (hbox); have n2_ := Aside0.mk ((by rw [hg]; exact (below_size (by repeat (first | (with_reducible first | exact HB.out | apply below_alloc | apply pw_below_drewN | apply below_drew1) | exact HB.out))) : w.heap.size ≤ gb101)); have n3_ := Aside0.mk ((by rw [hg]; exact (below_size (by repeat (first | (with_reducible first | exact HB.out | apply below_alloc | apply pw_below_drewN | apply below_drew1) | exact HB.out))) : w.heap.size ≤ gb101)); clear HB; have HB := n0_; have BK101 := n1_; have GW101 := n2_; have GE101 := n3_; clear n0_ n1_ n2_ n3_; clear hb hbox hg; have hcz22_0 : w21.cell? ⟨gb101, 0, none⟩ = some (.int .i64 a0_0) := (blk_cell BK101.out 0).trans rfl; have hcz22_1 : w21.cell? ⟨gb101, 1, none⟩ = some (.int .i64 a0_1) := (blk_cell BK101.out 1).trans rfl; have hcz22_2 : w21.cell? ⟨gb101, 2, none⟩ = some (.int .u64 a0_2) := (blk_cell BK101.out 2).trans rfl; have hcz22_3 : w21.cell? ⟨gb101, 3, none⟩ = some (.slice A0_3 l0_3.length c0_3) := (blk_cell BK101.out 3).trans rfl; have hfz22_0 := blk_frozen BK101.out 0; have hfz22_1 := blk_frozen BK101.out 1; have hfz22_2 := blk_frozen BK101.out 2; have hfz22_3 := blk_frozen BK101.out 3)); try go_wp2_with (first | ((with_reducible refine gate_dst (N := 1) rfl ?_); refine box_event ?hg (N := 1) ?hd (cs := #[.int .i64 a0_0, .int .i64 a0_1, .int .u64 a0_2, .slice A0_3 l0_3.length c0_3]) (t := 25) ?hr ?_; (case hd => rfl); (case hg => rfl); (case hr => first | (go_simp; done) | (go_simp; rfl)); intro gb101 hg w21 hbox hb; have n0_ := Aside0.mk (below_step (by repeat (first | (with_reducible first | exact HB.out | apply below_alloc | apply pw_below_drewN | apply below_drew1) | exact HB.out)) hb); have n1_ := Aside0.mk (hbox); have n2_ := Aside0.mk ((by rw [hg]; exact (below_size (by repeat (first | (with_reducible first | exact HB.out | apply below_alloc | apply pw_below_drewN | apply below_drew1) | exact HB.out))) : w.heap.size ≤ gb101)); have n3_ := Aside0.mk ((by rw [hg]; exact (below_size (by repeat (first | (with_reducible first | exact HB.out | apply below_alloc | apply pw_below_drewN | apply below_drew1) | exact HB.out))) : w.heap.size ≤ gb101)); clear HB; have HB := n0_; have BK101 := n1_; have GW101 := n2_; have GE101 := n3_; clear n0_ n1_ n2_ n3_; clear hb hbox hg; have hcz22_0 : w21.cell? ⟨gb101, 0, none⟩ = some (.int .i64 a0_0) := (blk_cell BK101.out 0).trans rfl; have hcz22_1 : w21.cell? ⟨gb101, 1, none⟩ = some (.int .i64 a0_1) := (blk_cell BK101.out 1).trans rfl; have hcz22_2 : w21.cell? ⟨gb101, 2, none⟩ = some (.int .u64 a0_2) := (blk_cell BK101.out 2).trans rfl; have hcz22_3 : w21.cell? ⟨gb101, 3, none⟩ = some (.slice A0_3 l0_3.length c0_3) := (blk_cell BK101.out 3).trans rfl; have hfz22_0 := blk_frozen BK101.out 0; have hfz22_1 := blk_frozen BK101.out 1; have hfz22_2 := blk_frozen BK101.out 2; have hfz22_3 := blk_frozen BK101.out 3)))
    go_loopg [53] k (fun kq v53 w' => ∃ (x53_1 : Int), v53 = .int .i64 x53_1 ∧ Aside0 (epicycleref06_Of.l0 kq l0_3 (l0_3.length : Int) x53_1 a0_0 a0_1 a0_2 l0_3 = some (r1, r2, r3)) ∧ Aside0 (kq ≤ k) ∧ Aside0 (w'.heap[gb101]? = some (.cells #[.int .i64 a0_0, .int .i64 a0_1, .int .u64 a0_2, (.slice A0_3 l0_3.length c0_3)] 25 (0, 0))) ∧ Aside0 (Below w.heap.size w w'))
    case atStart => exact ⟨(0), (by first | rfl | (simp; done) | (simp [*]; done)), H', ⟨Nat.le_refl _⟩, ⟨by (with_reducible repeat (first | refine blk_drewN ?_ _ | refine blk_drew ?_ | refine blk_alloc ?_ _)); exact BK101.out⟩, ⟨by repeat (first | (with_reducible first | exact HB.out | apply below_alloc | apply pw_below_drewN | apply below_drew1 | refine below_set ?_ GE101.out) | exact HB.out)⟩⟩
    case round =>
     clear H'
     try clear c1
     try clear c2
     try clear c2b0
     try clear c2b1
     try clear p2
     try clear c4
     try clear c10
     try clear c10b0
     try clear c10b1
     try clear c14
     try clear c14b0
     try clear c17
     try clear c18
     try clear c18b0
     try clear c18b1
     try clear hcz13_0
     try clear hcz13_1
     try clear hcz13_2
     try clear hcz13_3
     try clear hcz15_0
     try clear hcz15_1
     try clear hcz15_2
     try clear hcz15_3
     try clear hcz16_0
     try clear hcz16_1
     try clear hcz16_2
     try clear hcz16_3
     try clear hcz20_0
     try clear hcz20_1
     try clear hcz20_2
     try clear hcz20_3
     try clear hcz22_0
     try clear hcz22_1
     try clear hcz22_2
     try clear hcz22_3
     try clear hcz7_0
     try clear hcz7_1
     try clear hcz7_2
     try clear hcz7_3
     try clear hcz9_0
     try clear hcz9_1
     try clear hcz9_2
     try clear hcz9_3
     try clear hfz13_0
     try clear hfz13_1
     try clear hfz13_2
     try clear hfz13_3
     try clear hfz15_0
     try clear hfz15_1
     try clear hfz15_2
     try clear hfz15_3
     try clear hfz16_0
     try clear hfz16_1
     try clear hfz16_2
     try clear hfz16_3
     try clear hfz20_0
     try clear hfz20_1
     try clear hfz20_2
     try clear hfz20_3
     try clear hfz22_0
     try clear hfz22_1
     try clear hfz22_2
     try clear hfz22_3
     try clear hfz7_0
     try clear hfz7_1
     try clear hfz7_2
     try clear hfz7_3
     try clear hfz9_0
     try clear hfz9_1
     try clear hfz9_2
     try clear hfz9_3
     try clear p2
     obtain ⟨x53_1, rfl, HA, HK1, BK101, HB⟩ := hrel
     cases gk with
     | zero => exact absurd HA.out (by simp [epicycleref06_Of.l0])
     | succ k1 =>
      have H := HA.out
      clear HA
      simp only [epicycleref06_Of.l0] at H
      by_cases c23 : x53_1 < (l0_3.length : Int)
      ·rw [if_pos c23] at H
       have c23b0 : decide (x53_1 < (l0_3.length : Int)) = true := decide_eq_true c23
       clear c23
       by_cases c24 : 0 ≤ x53_1
       ·rw [if_pos c24] at H
        have c24b0 : decide (0 ≤ x53_1) = true := decide_eq_true c24
        clear c24
        by_cases c25 : x53_1 < (l0_3.length : Int)
        ·rw [if_pos c25] at H
         have c25b0 : decide (x53_1 < (l0_3.length : Int)) = true := decide_eq_true c25
         clear c25
         by_cases c26 : (((rd_T52 l0_3 x53_1).f2).length : Int) > 20
         ·rw [if_pos c26] at H
          have c26b0 : decide (20 < (((rd_T52 l0_3 x53_1).f2).length : Int)) = true := decide_eq_true c26
          have c26b1 : decide (20 < ((rd_T52 l0_3 x53_1).f2).length) = true := decide_eq_true (by omega)
          clear c26
          simp only [Option.some.injEq, Prod.mk.injEq] at H
          obtain ⟨rfl, rfl, rfl⟩ := H
          have p104 : 0 ≤ (x53_1 : Int) := of_decide_eq_true (by first | (with_reducible assumption) | assumption)
          have q104 : x53_1 < (l0_3.length : Int) := of_decide_eq_true (by first | (with_reducible assumption) | assumption)
          obtain ⟨ad104, A104_2, c104_2, e104, hx104_0, hx104_1, hx104_2, hl104_2, hi104_2⟩ := at_T52 HR0_3.out x53_1 p104 q104
          cases e104
          replace hx104_0 := (HB.out.cell (World.block_lt_of_cell? w _ hx104_0)).trans hx104_0
          replace hx104_1 := (HB.out.cell (World.block_lt_of_cell? w _ hx104_1)).trans hx104_1
          replace hx104_2 := (HB.out.cell (World.block_lt_of_cell? w _ hx104_2)).trans hx104_2
          have HR104_2 := Aside0.mk hi104_2
          have HC104_2 := Aside0.mk hl104_2
          clear hi104_2 hl104_2
          replace p104 := eq_true p104
          replace q104 := eq_true q104
          go_wp2_with (first | ((with_reducible refine gate_dst (N := 8) rfl ?_); refine box_event ?hg (N := 8) ?hd (cs := #[.int .u64 0, .int .u64 0, .slice none 0 0]) (t := 52) ?hr ?_; (case hd => rfl); (case hg => rfl); (case hr => first | (go_simp; done) | (go_simp; rfl)); intro gb105 hg w27 hbox hb; have n0_ := Aside0.mk (blk_below (g := gb101) (o := .cells #[.int .i64 a0_0, .int .i64 a0_1, .int .u64 a0_2, .slice (some ad104) l0_3.length c0_3] 25 (0, 0)) (by (with_reducible repeat (first | refine blk_drewN ?_ _ | refine blk_drew ?_ | refine blk_alloc ?_ _)); exact BK101.out) hb); have n1_ := Aside0.mk (below_step (by repeat (first | (with_reducible first | exact HB.out | apply below_alloc | apply pw_below_drewN | apply below_drew1 | refine below_set ?_ GE101.out) | exact HB.out)) hb); have n2_ := Aside0.mk (hbox); have n3_ := Aside0.mk ((by rw [hg]; exact (below_size (by repeat (first | (with_reducible first | exact HB.out | apply below_alloc | apply pw_below_drewN | apply below_drew1 | refine below_set ?_ GE101.out) | exact HB.out))) : w.heap.size ≤ gb105)); have n4_ := Aside0.mk ((by rw [hg]; exact (below_size (by repeat (first | (with_reducible first | exact HB.out | apply below_alloc | apply pw_below_drewN | apply below_drew1 | refine below_set ?_ GE101.out) | exact HB.out))) : w.heap.size ≤ gb105)); have n5_ := Aside0.mk ((by rw [hg]; exact Nat.ne_of_lt (blk_lt (g := gb101) (o := .cells #[.int .i64 a0_0, .int .i64 a0_1, .int .u64 a0_2, .slice (some ad104) l0_3.length c0_3] 25 (0, 0)) (by (with_reducible repeat (first | refine blk_drewN ?_ _ | refine blk_drew ?_ | refine blk_alloc ?_ _)); exact BK101.out)) : gb101 ≠ gb105)); have n6_ := Aside0.mk ((by rw [hg]; exact Nat.ne_of_gt (blk_lt (g := gb101) (o := .cells #[.int .i64 a0_0, .int .i64 a0_1, .int .u64 a0_2, .slice (some ad104) l0_3.length c0_3] 25 (0, 0)) (by (with_reducible repeat (first | refine blk_drewN ?_ _ | refine blk_drew ?_ | refine blk_alloc ?_ _)); exact BK101.out)) : gb105 ≠ gb101)); clear BK101; clear HB; have BK101 := n0_; have HB := n1_; have BK105 := n2_; have GW105 := n3_; have GE105 := n4_; have NB101_105 := n5_; have NB105_101 := n6_; clear n0_ n1_ n2_ n3_ n4_ n5_ n6_; clear hb hbox hg; have hnb28 := NB105_101.out; have hnc28 := NB101_105.out; have hcz29_0 : w27.cell? ⟨gb105, 0, none⟩ = some (.int .u64 0) := (blk_cell BK105.out 0).trans rfl; have hcz29_1 : w27.cell? ⟨gb105, 1, none⟩ = some (.int .u64 0) := (blk_cell BK105.out 1).trans rfl; have hcz29_2 : w27.cell? ⟨gb105, 2, none⟩ = some (.slice none 0 0) := (blk_cell BK105.out 2).trans rfl; have hfz29_0 := blk_frozen BK105.out 0; have hfz29_1 := blk_frozen BK105.out 1; have hfz29_2 := blk_frozen BK105.out 2))
          repeat (go_quiet (first | ((with_reducible refine gate_dst (N := 8) rfl ?_); refine box_event ?hg (N := 8) ?hd (cs := #[.int .u64 0, .int .u64 0, .slice none 0 0]) (t := 52) ?hr ?_; (case hd => rfl); (case hg => rfl); (case hr => first | (go_simp; done) | (go_simp; rfl)); intro gb105 hg w27 hbox hb; have n0_ := Aside0.mk (blk_below (g := gb101) (o := .cells #[.int .i64 a0_0, .int .i64 a0_1, .int .u64 a0_2, .slice (some ad104) l0_3.length c0_3] 25 (0, 0)) (by (with_reducible repeat (first | refine blk_drewN ?_ _ | refine blk_drew ?_ | refine blk_alloc ?_ _)); exact BK101.out) hb); have n1_ := Aside0.mk (below_step (by repeat (first | (with_reducible first | exact HB.out | apply below_alloc | apply pw_below_drewN | apply below_drew1 | refine below_set ?_ GE101.out) | exact HB.out)) hb); have n2_ := Aside0.mk (hbox); have n3_ := Aside0.mk ((by rw [hg]; exact (below_size (by repeat (first | (with_reducible first | exact HB.out | apply below_alloc | apply pw_below_drewN | apply below_drew1 | refine below_set ?_ GE101.out) | exact HB.out))) : w.heap.size ≤ gb105)); have n4_ := Aside0.mk ((by rw [hg]; exact (below_size (by repeat (first | (with_reducible first | exact HB.out | apply below_alloc | apply pw_below_drewN | apply below_drew1 | refine below_set ?_ GE101.out) | exact HB.out))) : w.heap.size ≤ gb105)); have n5_ := Aside0.mk ((by rw [hg]; exact Nat.ne_of_lt (blk_lt (g := gb101) (o := .cells #[.int .i64 a0_0, .int .i64 a0_1, .int .u64 a0_2, .slice (some ad104) l0_3.length c0_3] 25 (0, 0)) (by (with_reducible repeat (first | refine blk_drewN ?_ _ | refine blk_drew ?_ | refine blk_alloc ?_ _)); exact BK101.out)) : gb101 ≠ gb105)); have n6_ := Aside0.mk ((by rw [hg]; exact Nat.ne_of_gt (blk_lt (g := gb101) (o := .cells #[.int .i64 a0_0, .int .i64 a0_1, .int .u64 a0_2, .slice (some ad104) l0_3.length c0_3] 25 (0, 0)) (by (with_reducible repeat (first | refine blk_drewN ?_ _ | refine blk_drew ?_ | refine blk_alloc ?_ _)); exact BK101.out)) : gb105 ≠ gb101)); clear BK101; clear HB; have BK101 := n0_; have HB := n1_; have BK105 := n2_; have GW105 := n3_; have GE105 := n4_; have NB101_105 := n5_; have NB105_101 := n6_; clear n0_ n1_ n2_ n3_ n4_ n5_ n6_; clear hb hbox hg; have hnb28 := NB105_101.out; have hnc28 := NB101_105.out; have hcz29_0 : w27.cell? ⟨gb105, 0, none⟩ = some (.int .u64 0) := (blk_cell BK105.out 0).trans rfl; have hcz29_1 : w27.cell? ⟨gb105, 1, none⟩ = some (.int .u64 0) := (blk_cell BK105.out 1).trans rfl; have hcz29_2 : w27.cell? ⟨gb105, 2, none⟩ = some (.slice none 0 0) := (blk_cell BK105.out 2).trans rfl; have hfz29_0 := blk_frozen BK105.out 0; have hfz29_1 := blk_frozen BK105.out 1; have hfz29_2 := blk_frozen BK105.out 2)); try go_wp2_with (first | ((with_reducible refine gate_dst (N := 8) rfl ?_); refine box_event ?hg (N := 8) ?hd (cs := #[.int .u64 0, .int .u64 0, .slice none 0 0]) (t := 52) ?hr ?_; (case hd => rfl); (case hg => rfl); (case hr => first | (go_simp; done) | (go_simp; rfl)); intro gb105 hg w27 hbox hb; have n0_ := Aside0.mk (blk_below (g := gb101) (o := .cells #[.int .i64 a0_0, .int .i64 a0_1, .int .u64 a0_2, .slice (some ad104) l0_3.length c0_3] 25 (0, 0)) (by (with_reducible repeat (first | refine blk_drewN ?_ _ | refine blk_drew ?_ | refine blk_alloc ?_ _)); exact BK101.out) hb); have n1_ := Aside0.mk (below_step (by repeat (first | (with_reducible first | exact HB.out | apply below_alloc | apply pw_below_drewN | apply below_drew1 | refine below_set ?_ GE101.out) | exact HB.out)) hb); have n2_ := Aside0.mk (hbox); have n3_ := Aside0.mk ((by rw [hg]; exact (below_size (by repeat (first | (with_reducible first | exact HB.out | apply below_alloc | apply pw_below_drewN | apply below_drew1 | refine below_set ?_ GE101.out) | exact HB.out))) : w.heap.size ≤ gb105)); have n4_ := Aside0.mk ((by rw [hg]; exact (below_size (by repeat (first | (with_reducible first | exact HB.out | apply below_alloc | apply pw_below_drewN | apply below_drew1 | refine below_set ?_ GE101.out) | exact HB.out))) : w.heap.size ≤ gb105)); have n5_ := Aside0.mk ((by rw [hg]; exact Nat.ne_of_lt (blk_lt (g := gb101) (o := .cells #[.int .i64 a0_0, .int .i64 a0_1, .int .u64 a0_2, .slice (some ad104) l0_3.length c0_3] 25 (0, 0)) (by (with_reducible repeat (first | refine blk_drewN ?_ _ | refine blk_drew ?_ | refine blk_alloc ?_ _)); exact BK101.out)) : gb101 ≠ gb105)); have n6_ := Aside0.mk ((by rw [hg]; exact Nat.ne_of_gt (blk_lt (g := gb101) (o := .cells #[.int .i64 a0_0, .int .i64 a0_1, .int .u64 a0_2, .slice (some ad104) l0_3.length c0_3] 25 (0, 0)) (by (with_reducible repeat (first | refine blk_drewN ?_ _ | refine blk_drew ?_ | refine blk_alloc ?_ _)); exact BK101.out)) : gb105 ≠ gb101)); clear BK101; clear HB; have BK101 := n0_; have HB := n1_; have BK105 := n2_; have GW105 := n3_; have GE105 := n4_; have NB101_105 := n5_; have NB105_101 := n6_; clear n0_ n1_ n2_ n3_ n4_ n5_ n6_; clear hb hbox hg; have hnb28 := NB105_101.out; have hnc28 := NB101_105.out; have hcz29_0 : w27.cell? ⟨gb105, 0, none⟩ = some (.int .u64 0) := (blk_cell BK105.out 0).trans rfl; have hcz29_1 : w27.cell? ⟨gb105, 1, none⟩ = some (.int .u64 0) := (blk_cell BK105.out 1).trans rfl; have hcz29_2 : w27.cell? ⟨gb105, 2, none⟩ = some (.slice none 0 0) := (blk_cell BK105.out 2).trans rfl; have hfz29_0 := blk_frozen BK105.out 0; have hfz29_1 := blk_frozen BK105.out 1; have hfz29_2 := blk_frozen BK105.out 2)))
          go_ret3
          exact ⟨by first | rfl | (simp [errW_none, errW_some] <;> rfl) | (simp [*, errW_none, errW_some] <;> rfl), by repeat (first | (with_reducible first | exact HB.out | apply below_alloc | apply pw_below_drewN | apply below_drew1 | refine below_set ?_ GE101.out | refine below_set ?_ GE105.out) | exact HB.out)⟩
         ·rw [if_neg c26] at H
          have c26b0 : decide (20 < (((rd_T52 l0_3 x53_1).f2).length : Int)) = false := decide_eq_false c26
          have c26b1 : decide (20 < ((rd_T52 l0_3 x53_1).f2).length) = false := decide_eq_false (by omega)
          clear c26
          have H' := Aside0.mk H
          clear H
          have p104 : 0 ≤ (x53_1 : Int) := of_decide_eq_true (by first | (with_reducible assumption) | assumption)
          have q104 : x53_1 < (l0_3.length : Int) := of_decide_eq_true (by first | (with_reducible assumption) | assumption)
          obtain ⟨ad104, A104_2, c104_2, e104, hx104_0, hx104_1, hx104_2, hl104_2, hi104_2⟩ := at_T52 HR0_3.out x53_1 p104 q104
          cases e104
          replace hx104_0 := (HB.out.cell (World.block_lt_of_cell? w _ hx104_0)).trans hx104_0
          replace hx104_1 := (HB.out.cell (World.block_lt_of_cell? w _ hx104_1)).trans hx104_1
          replace hx104_2 := (HB.out.cell (World.block_lt_of_cell? w _ hx104_2)).trans hx104_2
          have HR104_2 := Aside0.mk hi104_2
          have HC104_2 := Aside0.mk hl104_2
          clear hi104_2 hl104_2
          replace p104 := eq_true p104
          replace q104 := eq_true q104
          go_wp2_with (first | ((with_reducible refine gate_dst (N := 8) rfl ?_); refine box_event ?hg (N := 8) ?hd (cs := #[.int .u64 0, .int .u64 0, .slice none 0 0]) (t := 52) ?hr ?_; (case hd => rfl); (case hg => rfl); (case hr => first | (go_simp; done) | (go_simp; rfl)); intro gb105 hg w30 hbox hb; have n0_ := Aside0.mk (blk_below (g := gb101) (o := .cells #[.int .i64 a0_0, .int .i64 a0_1, .int .u64 a0_2, .slice (some ad104) l0_3.length c0_3] 25 (0, 0)) (by (with_reducible repeat (first | refine blk_drewN ?_ _ | refine blk_drew ?_ | refine blk_alloc ?_ _)); exact BK101.out) hb); have n1_ := Aside0.mk (below_step (by repeat (first | (with_reducible first | exact HB.out | apply below_alloc | apply pw_below_drewN | apply below_drew1 | refine below_set ?_ GE101.out) | exact HB.out)) hb); have n2_ := Aside0.mk (hbox); have n3_ := Aside0.mk ((by rw [hg]; exact (below_size (by repeat (first | (with_reducible first | exact HB.out | apply below_alloc | apply pw_below_drewN | apply below_drew1 | refine below_set ?_ GE101.out) | exact HB.out))) : w.heap.size ≤ gb105)); have n4_ := Aside0.mk ((by rw [hg]; exact (below_size (by repeat (first | (with_reducible first | exact HB.out | apply below_alloc | apply pw_below_drewN | apply below_drew1 | refine below_set ?_ GE101.out) | exact HB.out))) : w.heap.size ≤ gb105)); have n5_ := Aside0.mk ((by rw [hg]; exact Nat.ne_of_lt (blk_lt (g := gb101) (o := .cells #[.int .i64 a0_0, .int .i64 a0_1, .int .u64 a0_2, .slice (some ad104) l0_3.length c0_3] 25 (0, 0)) (by (with_reducible repeat (first | refine blk_drewN ?_ _ | refine blk_drew ?_ | refine blk_alloc ?_ _)); exact BK101.out)) : gb101 ≠ gb105)); have n6_ := Aside0.mk ((by rw [hg]; exact Nat.ne_of_gt (blk_lt (g := gb101) (o := .cells #[.int .i64 a0_0, .int .i64 a0_1, .int .u64 a0_2, .slice (some ad104) l0_3.length c0_3] 25 (0, 0)) (by (with_reducible repeat (first | refine blk_drewN ?_ _ | refine blk_drew ?_ | refine blk_alloc ?_ _)); exact BK101.out)) : gb105 ≠ gb101)); clear BK101; clear HB; have BK101 := n0_; have HB := n1_; have BK105 := n2_; have GW105 := n3_; have GE105 := n4_; have NB101_105 := n5_; have NB105_101 := n6_; clear n0_ n1_ n2_ n3_ n4_ n5_ n6_; clear hb hbox hg; have hnb31 := NB105_101.out; have hnc31 := NB101_105.out; have hcz32_0 : w30.cell? ⟨gb105, 0, none⟩ = some (.int .u64 0) := (blk_cell BK105.out 0).trans rfl; have hcz32_1 : w30.cell? ⟨gb105, 1, none⟩ = some (.int .u64 0) := (blk_cell BK105.out 1).trans rfl; have hcz32_2 : w30.cell? ⟨gb105, 2, none⟩ = some (.slice none 0 0) := (blk_cell BK105.out 2).trans rfl; have hfz32_0 := blk_frozen BK105.out 0; have hfz32_1 := blk_frozen BK105.out 1; have hfz32_2 := blk_frozen BK105.out 2))
          repeat (go_quiet (first | ((with_reducible refine gate_dst (N := 8) rfl ?_); refine box_event ?hg (N := 8) ?hd (cs := #[.int .u64 0, .int .u64 0, .slice none 0 0]) (t := 52) ?hr ?_; (case hd => rfl); (case hg => rfl); (case hr => first | (go_simp; done) | (go_simp; rfl)); intro gb105 hg w30 hbox hb; have n0_ := Aside0.mk (blk_below (g := gb101) (o := .cells #[.int .i64 a0_0, .int .i64 a0_1, .int .u64 a0_2, .slice (some ad104) l0_3.length c0_3] 25 (0, 0)) (by (with_reducible repeat (first | refine blk_drewN ?_ _ | refine blk_drew ?_ | refine blk_alloc ?_ _)); exact BK101.out) hb); have n1_ := Aside0.mk (below_step (by repeat (first | (with_reducible first | exact HB.out | apply below_alloc | apply pw_below_drewN | apply below_drew1 | refine below_set ?_ GE101.out) | exact HB.out)) hb); have n2_ := Aside0.mk (hbox); have n3_ := Aside0.mk ((by rw [hg]; exact (below_size (by repeat (first | (with_reducible first | exact HB.out | apply below_alloc | apply pw_below_drewN | apply below_drew1 | refine below_set ?_ GE101.out) | exact HB.out))) : w.heap.size ≤ gb105)); have n4_ := Aside0.mk ((by rw [hg]; exact (below_size (by repeat (first | (with_reducible first | exact HB.out | apply below_alloc | apply pw_below_drewN | apply below_drew1 | refine below_set ?_ GE101.out) | exact HB.out))) : w.heap.size ≤ gb105)); have n5_ := Aside0.mk ((by rw [hg]; exact Nat.ne_of_lt (blk_lt (g := gb101) (o := .cells #[.int .i64 a0_0, .int .i64 a0_1, .int .u64 a0_2, .slice (some ad104) l0_3.length c0_3] 25 (0, 0)) (by (with_reducible repeat (first | refine blk_drewN ?_ _ | refine blk_drew ?_ | refine blk_alloc ?_ _)); exact BK101.out)) : gb101 ≠ gb105)); have n6_ := Aside0.mk ((by rw [hg]; exact Nat.ne_of_gt (blk_lt (g := gb101) (o := .cells #[.int .i64 a0_0, .int .i64 a0_1, .int .u64 a0_2, .slice (some ad104) l0_3.length c0_3] 25 (0, 0)) (by (with_reducible repeat (first | refine blk_drewN ?_ _ | refine blk_drew ?_ | refine blk_alloc ?_ _)); exact BK101.out)) : gb105 ≠ gb101)); clear BK101; clear HB; have BK101 := n0_; have HB := n1_; have BK105 := n2_; have GW105 := n3_; have GE105 := n4_; have NB101_105 := n5_; have NB105_101 := n6_; clear n0_ n1_ n2_ n3_ n4_ n5_ n6_; clear hb hbox hg; have hnb31 := NB105_101.out; have hnc31 := NB101_105.out; have hcz32_0 : w30.cell? ⟨gb105, 0, none⟩ = some (.int .u64 0) := (blk_cell BK105.out 0).trans rfl; have hcz32_1 : w30.cell? ⟨gb105, 1, none⟩ = some (.int .u64 0) := (blk_cell BK105.out 1).trans rfl; have hcz32_2 : w30.cell? ⟨gb105, 2, none⟩ = some (.slice none 0 0) := (blk_cell BK105.out 2).trans rfl; have hfz32_0 := blk_frozen BK105.out 0; have hfz32_1 := blk_frozen BK105.out 1; have hfz32_2 := blk_frozen BK105.out 2)); try go_wp2_with (first | ((with_reducible refine gate_dst (N := 8) rfl ?_); refine box_event ?hg (N := 8) ?hd (cs := #[.int .u64 0, .int .u64 0, .slice none 0 0]) (t := 52) ?hr ?_; (case hd => rfl); (case hg => rfl); (case hr => first | (go_simp; done) | (go_simp; rfl)); intro gb105 hg w30 hbox hb; have n0_ := Aside0.mk (blk_below (g := gb101) (o := .cells #[.int .i64 a0_0, .int .i64 a0_1, .int .u64 a0_2, .slice (some ad104) l0_3.length c0_3] 25 (0, 0)) (by (with_reducible repeat (first | refine blk_drewN ?_ _ | refine blk_drew ?_ | refine blk_alloc ?_ _)); exact BK101.out) hb); have n1_ := Aside0.mk (below_step (by repeat (first | (with_reducible first | exact HB.out | apply below_alloc | apply pw_below_drewN | apply below_drew1 | refine below_set ?_ GE101.out) | exact HB.out)) hb); have n2_ := Aside0.mk (hbox); have n3_ := Aside0.mk ((by rw [hg]; exact (below_size (by repeat (first | (with_reducible first | exact HB.out | apply below_alloc | apply pw_below_drewN | apply below_drew1 | refine below_set ?_ GE101.out) | exact HB.out))) : w.heap.size ≤ gb105)); have n4_ := Aside0.mk ((by rw [hg]; exact (below_size (by repeat (first | (with_reducible first | exact HB.out | apply below_alloc | apply pw_below_drewN | apply below_drew1 | refine below_set ?_ GE101.out) | exact HB.out))) : w.heap.size ≤ gb105)); have n5_ := Aside0.mk ((by rw [hg]; exact Nat.ne_of_lt (blk_lt (g := gb101) (o := .cells #[.int .i64 a0_0, .int .i64 a0_1, .int .u64 a0_2, .slice (some ad104) l0_3.length c0_3] 25 (0, 0)) (by (with_reducible repeat (first | refine blk_drewN ?_ _ | refine blk_drew ?_ | refine blk_alloc ?_ _)); exact BK101.out)) : gb101 ≠ gb105)); have n6_ := Aside0.mk ((by rw [hg]; exact Nat.ne_of_gt (blk_lt (g := gb101) (o := .cells #[.int .i64 a0_0, .int .i64 a0_1, .int .u64 a0_2, .slice (some ad104) l0_3.length c0_3] 25 (0, 0)) (by (with_reducible repeat (first | refine blk_drewN ?_ _ | refine blk_drew ?_ | refine blk_alloc ?_ _)); exact BK101.out)) : gb105 ≠ gb101)); clear BK101; clear HB; have BK101 := n0_; have HB := n1_; have BK105 := n2_; have GW105 := n3_; have GE105 := n4_; have NB101_105 := n5_; have NB105_101 := n6_; clear n0_ n1_ n2_ n3_ n4_ n5_ n6_; clear hb hbox hg; have hnb31 := NB105_101.out; have hnc31 := NB101_105.out; have hcz32_0 : w30.cell? ⟨gb105, 0, none⟩ = some (.int .u64 0) := (blk_cell BK105.out 0).trans rfl; have hcz32_1 : w30.cell? ⟨gb105, 1, none⟩ = some (.int .u64 0) := (blk_cell BK105.out 1).trans rfl; have hcz32_2 : w30.cell? ⟨gb105, 2, none⟩ = some (.slice none 0 0) := (blk_cell BK105.out 2).trans rfl; have hfz32_0 := blk_frozen BK105.out 0; have hfz32_1 := blk_frozen BK105.out 1; have hfz32_2 := blk_frozen BK105.out 2)))
          go_roundg k1
          case measure => have := HK1.out; omega
          case rel => exact ⟨(wrap64 (x53_1 + 1)), (by first | rfl | (simp; done) | (simp [*]; done)), H', ⟨by have := HK1.out; omega⟩, ⟨by (with_reducible repeat (first | refine blk_drewN ?_ _ | refine blk_drew ?_ | refine blk_alloc ?_ _)); refine blk_far ?_ NB101_105.out _; (with_reducible repeat (first | refine blk_drewN ?_ _ | refine blk_drew ?_ | refine blk_alloc ?_ _)); refine blk_far ?_ NB101_105.out _; (with_reducible repeat (first | refine blk_drewN ?_ _ | refine blk_drew ?_ | refine blk_alloc ?_ _)); refine blk_far ?_ NB101_105.out _; (with_reducible repeat (first | refine blk_drewN ?_ _ | refine blk_drew ?_ | refine blk_alloc ?_ _)); exact BK101.out⟩, ⟨by repeat (first | (with_reducible first | exact HB.out | apply below_alloc | apply pw_below_drewN | apply below_drew1 | refine below_set ?_ GE101.out | refine below_set ?_ GE105.out) | exact HB.out)⟩⟩
        ·rw [if_neg c25] at H
         exact absurd H (by simp)
       ·rw [if_neg c24] at H
        exact absurd H (by simp)
      ·rw [if_neg c23] at H
       have c23b0 : decide (x53_1 < (l0_3.length : Int)) = false := decide_eq_false c23
       clear c23
       replace H := Option.bind_eq_some_iff.mp H
       obtain ⟨⟨t106, t107⟩, A330, H⟩ := H
       replace H : (if t107 = 0 then (epicycleref06_Of.l1 k1 l0_3 (l0_3.length : Int) 0 a0_0 a0_1 a0_2 l0_3) else (some (0, 0, t107))) = some (r1, r2, r3) := H
       have A33 := Aside0.mk A330
       clear A330
       by_cases c34 : t107 = 0
       ·rw [if_pos c34] at H
        have c34b0 : (t107 == 0) = true := beq_iff_eq.mpr c34
        have c34b1 : (t107 != 0) = false := bne_eq_false_iff_eq.mpr c34
        clear c34
        have H' := Aside0.mk H
        clear H
        have hcz35_0 : wr.cell? ⟨gb101, 0, none⟩ = some (.int .i64 a0_0) := (blk_cell BK101.out 0).trans rfl
        have hcz35_1 : wr.cell? ⟨gb101, 1, none⟩ = some (.int .i64 a0_1) := (blk_cell BK101.out 1).trans rfl
        have hcz35_2 : wr.cell? ⟨gb101, 2, none⟩ = some (.int .u64 a0_2) := (blk_cell BK101.out 2).trans rfl
        have hcz35_3 : wr.cell? ⟨gb101, 3, none⟩ = some (.slice A0_3 l0_3.length c0_3) := (blk_cell BK101.out 3).trans rfl
        have hfz35_0 := blk_frozen BK101.out 0
        have hfz35_1 := blk_frozen BK101.out 1
        have hfz35_2 := blk_frozen BK101.out 2
        have hfz35_3 := blk_frozen BK101.out 3
        go_wp2_with (first | (go_at_call 53; (with_reducible refine (epicycleref04_Check.calls k1 _ _ l0_3 t106 t107 _ ?side1 ?side2 A33.out).mono ?_); (case side1 => repeat (first | exact (Kd.C_below HR0_3.out HB.out) | (with_reducible refine Kd.C_alloc ?_ _) | (with_reducible refine Kd.C_drewN ?_ _) | (with_reducible refine Kd.C_drew ?_))); (case side2 => exact HC0_3.out); rintro e w36 ⟨rfl, hb⟩; have n0_ := Aside0.mk (blk_below (g := gb101) (o := .cells #[.int .i64 a0_0, .int .i64 a0_1, .int .u64 a0_2, .slice A0_3 l0_3.length c0_3] 25 (0, 0)) (by (with_reducible repeat (first | refine blk_drewN ?_ _ | refine blk_drew ?_ | refine blk_alloc ?_ _)); exact BK101.out) hb); have n1_ := Aside0.mk (below_step (by repeat (first | (with_reducible first | exact HB.out | apply below_alloc | apply pw_below_drewN | apply below_drew1 | refine below_set ?_ GE101.out) | exact HB.out)) hb); clear BK101; clear HB; have BK101 := n0_; have HB := n1_; clear n0_ n1_; (try clear hb); (try clear hb2); (try clear hk); (try clear hi); have hcz37_0 : w36.cell? ⟨gb101, 0, none⟩ = some (.int .i64 a0_0) := (blk_cell BK101.out 0).trans rfl; have hcz37_1 : w36.cell? ⟨gb101, 1, none⟩ = some (.int .i64 a0_1) := (blk_cell BK101.out 1).trans rfl; have hcz37_2 : w36.cell? ⟨gb101, 2, none⟩ = some (.int .u64 a0_2) := (blk_cell BK101.out 2).trans rfl; have hcz37_3 : w36.cell? ⟨gb101, 3, none⟩ = some (.slice A0_3 l0_3.length c0_3) := (blk_cell BK101.out 3).trans rfl; have hfz37_0 := blk_frozen BK101.out 0; have hfz37_1 := blk_frozen BK101.out 1; have hfz37_2 := blk_frozen BK101.out 2; have hfz37_3 := blk_frozen BK101.out 3))
        repeat (go_quiet (first | (go_at_call 53; (with_reducible refine (epicycleref04_Check.calls k1 _ _ l0_3 t106 t107 _ ?side1 ?side2 A33.out).mono ?_); (case side1 => repeat (first | exact (Kd.C_below HR0_3.out HB.out) | (with_reducible refine Kd.C_alloc ?_ _) | (with_reducible refine Kd.C_drewN ?_ _) | (with_reducible refine Kd.C_drew ?_))); (case side2 => exact HC0_3.out); rintro e w36 ⟨rfl, hb⟩; have n0_ := Aside0.mk (blk_below (g := gb101) (o := .cells #[.int .i64 a0_0, .int .i64 a0_1, .int .u64 a0_2, .slice A0_3 l0_3.length c0_3] 25 (0, 0)) (by (with_reducible repeat (first | refine blk_drewN ?_ _ | refine blk_drew ?_ | refine blk_alloc ?_ _)); exact BK101.out) hb); have n1_ := Aside0.mk (below_step (by repeat (first | (with_reducible first | exact HB.out | apply below_alloc | apply pw_below_drewN | apply below_drew1 | refine below_set ?_ GE101.out) | exact HB.out)) hb); clear BK101; clear HB; have BK101 := n0_; have HB := n1_; clear n0_ n1_; (try clear hb); (try clear hb2); (try clear hk); (try clear hi); have hcz37_0 : w36.cell? ⟨gb101, 0, none⟩ = some (.int .i64 a0_0) := (blk_cell BK101.out 0).trans rfl; have hcz37_1 : w36.cell? ⟨gb101, 1, none⟩ = some (.int .i64 a0_1) := (blk_cell BK101.out 1).trans rfl; have hcz37_2 : w36.cell? ⟨gb101, 2, none⟩ = some (.int .u64 a0_2) := (blk_cell BK101.out 2).trans rfl; have hcz37_3 : w36.cell? ⟨gb101, 3, none⟩ = some (.slice A0_3 l0_3.length c0_3) := (blk_cell BK101.out 3).trans rfl; have hfz37_0 := blk_frozen BK101.out 0; have hfz37_1 := blk_frozen BK101.out 1; have hfz37_2 := blk_frozen BK101.out 2; have hfz37_3 := blk_frozen BK101.out 3)); try go_wp2_with (first | (go_at_call 53; (with_reducible refine (epicycleref04_Check.calls k1 _ _ l0_3 t106 t107 _ ?side1 ?side2 A33.out).mono ?_); (case side1 => repeat (first | exact (Kd.C_below HR0_3.out HB.out) | (with_reducible refine Kd.C_alloc ?_ _) | (with_reducible refine Kd.C_drewN ?_ _) | (with_reducible refine Kd.C_drew ?_))); (case side2 => exact HC0_3.out); rintro e w36 ⟨rfl, hb⟩; have n0_ := Aside0.mk (blk_below (g := gb101) (o := .cells #[.int .i64 a0_0, .int .i64 a0_1, .int .u64 a0_2, .slice A0_3 l0_3.length c0_3] 25 (0, 0)) (by (with_reducible repeat (first | refine blk_drewN ?_ _ | refine blk_drew ?_ | refine blk_alloc ?_ _)); exact BK101.out) hb); have n1_ := Aside0.mk (below_step (by repeat (first | (with_reducible first | exact HB.out | apply below_alloc | apply pw_below_drewN | apply below_drew1 | refine below_set ?_ GE101.out) | exact HB.out)) hb); clear BK101; clear HB; have BK101 := n0_; have HB := n1_; clear n0_ n1_; (try clear hb); (try clear hb2); (try clear hk); (try clear hi); have hcz37_0 : w36.cell? ⟨gb101, 0, none⟩ = some (.int .i64 a0_0) := (blk_cell BK101.out 0).trans rfl; have hcz37_1 : w36.cell? ⟨gb101, 1, none⟩ = some (.int .i64 a0_1) := (blk_cell BK101.out 1).trans rfl; have hcz37_2 : w36.cell? ⟨gb101, 2, none⟩ = some (.int .u64 a0_2) := (blk_cell BK101.out 2).trans rfl; have hcz37_3 : w36.cell? ⟨gb101, 3, none⟩ = some (.slice A0_3 l0_3.length c0_3) := (blk_cell BK101.out 3).trans rfl; have hfz37_0 := blk_frozen BK101.out 0; have hfz37_1 := blk_frozen BK101.out 1; have hfz37_2 := blk_frozen BK101.out 2; have hfz37_3 := blk_frozen BK101.out 3)))
        go_loopg [74] k1 (fun kq v74 w' => ∃ (x74_2 : Int), v74 = .int .i64 x74_2 ∧ Aside0 (epicycleref06_Of.l1 kq l0_3 (l0_3.length : Int) x74_2 a0_0 a0_1 a0_2 l0_3 = some (r1, r2, r3)) ∧ Aside0 (kq ≤ k1) ∧ Aside0 (w'.heap[gb101]? = some (.cells #[.int .i64 a0_0, .int .i64 a0_1, .int .u64 a0_2, (.slice A0_3 l0_3.length c0_3)] 25 (0, 0))) ∧ Aside0 (Below w.heap.size w w'))
        case atStart => exact ⟨(0), (by first | rfl | (simp; done) | (simp [*]; done)), H', ⟨Nat.le_refl _⟩, ⟨by (with_reducible repeat (first | refine blk_drewN ?_ _ | refine blk_drew ?_ | refine blk_alloc ?_ _)); exact BK101.out⟩, ⟨by repeat (first | (with_reducible first | exact HB.out | apply below_alloc | apply pw_below_drewN | apply below_drew1 | refine below_set ?_ GE101.out) | exact HB.out)⟩⟩
        case round =>
         clear H'
         try clear c1
         try clear p1
         try clear q1
         try clear hx1
         try clear c2
         try clear c2b0
         try clear c2b1
         try clear p2
         try clear c3
         try clear c4
         try clear p6
         try clear c10
         try clear c10b0
         try clear c10b1
         try clear p10
         try clear q10
         try clear hx10
         try clear c14
         try clear c14b0
         try clear c17
         try clear c18
         try clear c18b0
         try clear c18b1
         try clear c23
         try clear c23b0
         try clear c24
         try clear c24b0
         try clear c25
         try clear c25b0
         try clear c26
         try clear c26b0
         try clear c26b1
         try clear c28
         try clear c31
         try clear c34
         try clear c34b0
         try clear c34b1
         try clear hcz13_0
         try clear hcz13_1
         try clear hcz13_2
         try clear hcz13_3
         try clear hcz15_0
         try clear hcz15_1
         try clear hcz15_2
         try clear hcz15_3
         try clear hcz16_0
         try clear hcz16_1
         try clear hcz16_2
         try clear hcz16_3
         try clear hcz20_0
         try clear hcz20_1
         try clear hcz20_2
         try clear hcz20_3
         try clear hcz22_0
         try clear hcz22_1
         try clear hcz22_2
         try clear hcz22_3
         try clear hcz29_0
         try clear hcz29_1
         try clear hcz29_2
         try clear hcz32_0
         try clear hcz32_1
         try clear hcz32_2
         try clear hcz35_0
         try clear hcz35_1
         try clear hcz35_2
         try clear hcz35_3
         try clear hcz37_0
         try clear hcz37_1
         try clear hcz37_2
         try clear hcz37_3
         try clear hcz7_0
         try clear hcz7_1
         try clear hcz7_2
         try clear hcz7_3
         try clear hcz9_0
         try clear hcz9_1
         try clear hcz9_2
         try clear hcz9_3
         try clear hfz13_0
         try clear hfz13_1
         try clear hfz13_2
         try clear hfz13_3
         try clear hfz15_0
         try clear hfz15_1
         try clear hfz15_2
         try clear hfz15_3
         try clear hfz16_0
         try clear hfz16_1
         try clear hfz16_2
         try clear hfz16_3
         try clear hfz20_0
         try clear hfz20_1
         try clear hfz20_2
         try clear hfz20_3
         try clear hfz22_0
         try clear hfz22_1
         try clear hfz22_2
         try clear hfz22_3
         try clear hfz29_0
         try clear hfz29_1
         try clear hfz29_2
         try clear hfz32_0
         try clear hfz32_1
         try clear hfz32_2
         try clear hfz35_0
         try clear hfz35_1
         try clear hfz35_2
         try clear hfz35_3
         try clear hfz37_0
         try clear hfz37_1
         try clear hfz37_2
         try clear hfz37_3
         try clear hfz7_0
         try clear hfz7_1
         try clear hfz7_2
         try clear hfz7_3
         try clear hfz9_0
         try clear hfz9_1
         try clear hfz9_2
         try clear hfz9_3
         try clear hx104_0
         try clear hx104_1
         try clear hx104_2
         try clear p104
         try clear p2
         try clear q104
         obtain ⟨x74_2, rfl, HA, HK2, BK101, HB⟩ := hrel
         cases gk with
         | zero => exact absurd HA.out (by simp [epicycleref06_Of.l1])
         | succ k2 =>
          have H := HA.out
          clear HA
          simp only [epicycleref06_Of.l1] at H
          by_cases c38 : x74_2 < (l0_3.length : Int)
          ·rw [if_pos c38] at H
           have c38b0 : decide (x74_2 < (l0_3.length : Int)) = true := decide_eq_true c38
           clear c38
           by_cases c39 : 0 ≤ x74_2
           ·rw [if_pos c39] at H
            have c39b0 : decide (0 ≤ x74_2) = true := decide_eq_true c39
            clear c39
            by_cases c40 : x74_2 < (l0_3.length : Int)
            ·rw [if_pos c40] at H
             have c40b0 : decide (x74_2 < (l0_3.length : Int)) = true := decide_eq_true c40
             clear c40
             by_cases c41 : ((rd_T52 l0_3 x74_2).f0) = a0_2
             ·rw [if_pos c41] at H
              have c41b0 : (((rd_T52 l0_3 x74_2).f0) == a0_2) = true := beq_iff_eq.mpr c41
              have c41b1 : (((rd_T52 l0_3 x74_2).f0) != a0_2) = false := bne_eq_false_iff_eq.mpr c41
              clear c41
              simp only [Option.some.injEq, Prod.mk.injEq] at H
              obtain ⟨rfl, rfl, rfl⟩ := H
              have p108 : 0 ≤ (x74_2 : Int) := of_decide_eq_true (by first | (with_reducible assumption) | assumption)
              have q108 : x74_2 < (l0_3.length : Int) := of_decide_eq_true (by first | (with_reducible assumption) | assumption)
              obtain ⟨ad108, A108_2, c108_2, e108, hx108_0, hx108_1, hx108_2, hl108_2, hi108_2⟩ := at_T52 HR0_3.out x74_2 p108 q108
              cases e108
              replace hx108_0 := (HB.out.cell (World.block_lt_of_cell? w _ hx108_0)).trans hx108_0
              replace hx108_1 := (HB.out.cell (World.block_lt_of_cell? w _ hx108_1)).trans hx108_1
              replace hx108_2 := (HB.out.cell (World.block_lt_of_cell? w _ hx108_2)).trans hx108_2
              have HR108_2 := Aside0.mk hi108_2
              have HC108_2 := Aside0.mk hl108_2
              clear hi108_2 hl108_2
              replace p108 := eq_true p108
              replace q108 := eq_true q108
              go_wp2_with (first | ((with_reducible refine gate_dst (N := 12) rfl ?_); refine box_event ?hg (N := 12) ?hd (cs := #[.int .u64 0, .int .u64 0, .slice none 0 0]) (t := 52) ?hr ?_; (case hd => rfl); (case hg => rfl); (case hr => first | (go_simp; done) | (go_simp; rfl)); intro gb109 hg w42 hbox hb; have n0_ := Aside0.mk (blk_below (g := gb101) (o := .cells #[.int .i64 a0_0, .int .i64 a0_1, .int .u64 a0_2, .slice (some ad108) l0_3.length c0_3] 25 (0, 0)) (by (with_reducible repeat (first | refine blk_drewN ?_ _ | refine blk_drew ?_ | refine blk_alloc ?_ _)); exact BK101.out) hb); have n1_ := Aside0.mk (below_step (by repeat (first | (with_reducible first | exact HB.out | apply below_alloc | apply pw_below_drewN | apply below_drew1 | refine below_set ?_ GE101.out) | exact HB.out)) hb); have n2_ := Aside0.mk (hbox); have n3_ := Aside0.mk ((by rw [hg]; exact (below_size (by repeat (first | (with_reducible first | exact HB.out | apply below_alloc | apply pw_below_drewN | apply below_drew1 | refine below_set ?_ GE101.out) | exact HB.out))) : w.heap.size ≤ gb109)); have n4_ := Aside0.mk ((by rw [hg]; exact (below_size (by repeat (first | (with_reducible first | exact HB.out | apply below_alloc | apply pw_below_drewN | apply below_drew1 | refine below_set ?_ GE101.out) | exact HB.out))) : w.heap.size ≤ gb109)); have n5_ := Aside0.mk ((by rw [hg]; exact Nat.ne_of_lt (blk_lt (g := gb101) (o := .cells #[.int .i64 a0_0, .int .i64 a0_1, .int .u64 a0_2, .slice (some ad108) l0_3.length c0_3] 25 (0, 0)) (by (with_reducible repeat (first | refine blk_drewN ?_ _ | refine blk_drew ?_ | refine blk_alloc ?_ _)); exact BK101.out)) : gb101 ≠ gb109)); have n6_ := Aside0.mk ((by rw [hg]; exact Nat.ne_of_gt (blk_lt (g := gb101) (o := .cells #[.int .i64 a0_0, .int .i64 a0_1, .int .u64 a0_2, .slice (some ad108) l0_3.length c0_3] 25 (0, 0)) (by (with_reducible repeat (first | refine blk_drewN ?_ _ | refine blk_drew ?_ | refine blk_alloc ?_ _)); exact BK101.out)) : gb109 ≠ gb101)); clear BK101; clear HB; have BK101 := n0_; have HB := n1_; have BK109 := n2_; have GW109 := n3_; have GE109 := n4_; have NB101_109 := n5_; have NB109_101 := n6_; clear n0_ n1_ n2_ n3_ n4_ n5_ n6_; clear hb hbox hg; have hnb43 := NB109_101.out; have hnc43 := NB101_109.out; have hcz44_0 : w42.cell? ⟨gb109, 0, none⟩ = some (.int .u64 0) := (blk_cell BK109.out 0).trans rfl; have hcz44_1 : w42.cell? ⟨gb109, 1, none⟩ = some (.int .u64 0) := (blk_cell BK109.out 1).trans rfl; have hcz44_2 : w42.cell? ⟨gb109, 2, none⟩ = some (.slice none 0 0) := (blk_cell BK109.out 2).trans rfl; have hfz44_0 := blk_frozen BK109.out 0; have hfz44_1 := blk_frozen BK109.out 1; have hfz44_2 := blk_frozen BK109.out 2; have hcz45_0 : w42.cell? ⟨gb101, 0, none⟩ = some (.int .i64 a0_0) := (blk_cell BK101.out 0).trans rfl; have hcz45_1 : w42.cell? ⟨gb101, 1, none⟩ = some (.int .i64 a0_1) := (blk_cell BK101.out 1).trans rfl; have hcz45_2 : w42.cell? ⟨gb101, 2, none⟩ = some (.int .u64 a0_2) := (blk_cell BK101.out 2).trans rfl; have hcz45_3 : w42.cell? ⟨gb101, 3, none⟩ = some (.slice (some ad108) l0_3.length c0_3) := (blk_cell BK101.out 3).trans rfl; have hfz45_0 := blk_frozen BK101.out 0; have hfz45_1 := blk_frozen BK101.out 1; have hfz45_2 := blk_frozen BK101.out 2; have hfz45_3 := blk_frozen BK101.out 3))
              repeat (go_quiet (first | ((with_reducible refine gate_dst (N := 12) rfl ?_); refine box_event ?hg (N := 12) ?hd (cs := #[.int .u64 0, .int .u64 0, .slice none 0 0]) (t := 52) ?hr ?_; (case hd => rfl); (case hg => rfl); (case hr => first | (go_simp; done) | (go_simp; rfl)); intro gb109 hg w42 hbox hb; have n0_ := Aside0.mk (blk_below (g := gb101) (o := .cells #[.int .i64 a0_0, .int .i64 a0_1, .int .u64 a0_2, .slice (some ad108) l0_3.length c0_3] 25 (0, 0)) (by (with_reducible repeat (first | refine blk_drewN ?_ _ | refine blk_drew ?_ | refine blk_alloc ?_ _)); exact BK101.out) hb); have n1_ := Aside0.mk (below_step (by repeat (first | (with_reducible first | exact HB.out | apply below_alloc | apply pw_below_drewN | apply below_drew1 | refine below_set ?_ GE101.out) | exact HB.out)) hb); have n2_ := Aside0.mk (hbox); have n3_ := Aside0.mk ((by rw [hg]; exact (below_size (by repeat (first | (with_reducible first | exact HB.out | apply below_alloc | apply pw_below_drewN | apply below_drew1 | refine below_set ?_ GE101.out) | exact HB.out))) : w.heap.size ≤ gb109)); have n4_ := Aside0.mk ((by rw [hg]; exact (below_size (by repeat (first | (with_reducible first | exact HB.out | apply below_alloc | apply pw_below_drewN | apply below_drew1 | refine below_set ?_ GE101.out) | exact HB.out))) : w.heap.size ≤ gb109)); have n5_ := Aside0.mk ((by rw [hg]; exact Nat.ne_of_lt (blk_lt (g := gb101) (o := .cells #[.int .i64 a0_0, .int .i64 a0_1, .int .u64 a0_2, .slice (some ad108) l0_3.length c0_3] 25 (0, 0)) (by (with_reducible repeat (first | refine blk_drewN ?_ _ | refine blk_drew ?_ | refine blk_alloc ?_ _)); exact BK101.out)) : gb101 ≠ gb109)); have n6_ := Aside0.mk ((by rw [hg]; exact Nat.ne_of_gt (blk_lt (g := gb101) (o := .cells #[.int .i64 a0_0, .int .i64 a0_1, .int .u64 a0_2, .slice (some ad108) l0_3.length c0_3] 25 (0, 0)) (by (with_reducible repeat (first | refine blk_drewN ?_ _ | refine blk_drew ?_ | refine blk_alloc ?_ _)); exact BK101.out)) : gb109 ≠ gb101)); clear BK101; clear HB; have BK101 := n0_; have HB := n1_; have BK109 := n2_; have GW109 := n3_; have GE109 := n4_; have NB101_109 := n5_; have NB109_101 := n6_; clear n0_ n1_ n2_ n3_ n4_ n5_ n6_; clear hb hbox hg; have hnb43 := NB109_101.out; have hnc43 := NB101_109.out; have hcz44_0 : w42.cell? ⟨gb109, 0, none⟩ = some (.int .u64 0) := (blk_cell BK109.out 0).trans rfl; have hcz44_1 : w42.cell? ⟨gb109, 1, none⟩ = some (.int .u64 0) := (blk_cell BK109.out 1).trans rfl; have hcz44_2 : w42.cell? ⟨gb109, 2, none⟩ = some (.slice none 0 0) := (blk_cell BK109.out 2).trans rfl; have hfz44_0 := blk_frozen BK109.out 0; have hfz44_1 := blk_frozen BK109.out 1; have hfz44_2 := blk_frozen BK109.out 2; have hcz45_0 : w42.cell? ⟨gb101, 0, none⟩ = some (.int .i64 a0_0) := (blk_cell BK101.out 0).trans rfl; have hcz45_1 : w42.cell? ⟨gb101, 1, none⟩ = some (.int .i64 a0_1) := (blk_cell BK101.out 1).trans rfl; have hcz45_2 : w42.cell? ⟨gb101, 2, none⟩ = some (.int .u64 a0_2) := (blk_cell BK101.out 2).trans rfl; have hcz45_3 : w42.cell? ⟨gb101, 3, none⟩ = some (.slice (some ad108) l0_3.length c0_3) := (blk_cell BK101.out 3).trans rfl; have hfz45_0 := blk_frozen BK101.out 0; have hfz45_1 := blk_frozen BK101.out 1; have hfz45_2 := blk_frozen BK101.out 2; have hfz45_3 := blk_frozen BK101.out 3)); try go_wp2_with (first | ((with_reducible refine gate_dst (N := 12) rfl ?_); refine box_event ?hg (N := 12) ?hd (cs := #[.int .u64 0, .int .u64 0, .slice none 0 0]) (t := 52) ?hr ?_; (case hd => rfl); (case hg => rfl); (case hr => first | (go_simp; done) | (go_simp; rfl)); intro gb109 hg w42 hbox hb; have n0_ := Aside0.mk (blk_below (g := gb101) (o := .cells #[.int .i64 a0_0, .int .i64 a0_1, .int .u64 a0_2, .slice (some ad108) l0_3.length c0_3] 25 (0, 0)) (by (with_reducible repeat (first | refine blk_drewN ?_ _ | refine blk_drew ?_ | refine blk_alloc ?_ _)); exact BK101.out) hb); have n1_ := Aside0.mk (below_step (by repeat (first | (with_reducible first | exact HB.out | apply below_alloc | apply pw_below_drewN | apply below_drew1 | refine below_set ?_ GE101.out) | exact HB.out)) hb); have n2_ := Aside0.mk (hbox); have n3_ := Aside0.mk ((by rw [hg]; exact (below_size (by repeat (first | (with_reducible first | exact HB.out | apply below_alloc | apply pw_below_drewN | apply below_drew1 | refine below_set ?_ GE101.out) | exact HB.out))) : w.heap.size ≤ gb109)); have n4_ := Aside0.mk ((by rw [hg]; exact (below_size (by repeat (first | (with_reducible first | exact HB.out | apply below_alloc | apply pw_below_drewN | apply below_drew1 | refine below_set ?_ GE101.out) | exact HB.out))) : w.heap.size ≤ gb109)); have n5_ := Aside0.mk ((by rw [hg]; exact Nat.ne_of_lt (blk_lt (g := gb101) (o := .cells #[.int .i64 a0_0, .int .i64 a0_1, .int .u64 a0_2, .slice (some ad108) l0_3.length c0_3] 25 (0, 0)) (by (with_reducible repeat (first | refine blk_drewN ?_ _ | refine blk_drew ?_ | refine blk_alloc ?_ _)); exact BK101.out)) : gb101 ≠ gb109)); have n6_ := Aside0.mk ((by rw [hg]; exact Nat.ne_of_gt (blk_lt (g := gb101) (o := .cells #[.int .i64 a0_0, .int .i64 a0_1, .int .u64 a0_2, .slice (some ad108) l0_3.length c0_3] 25 (0, 0)) (by (with_reducible repeat (first | refine blk_drewN ?_ _ | refine blk_drew ?_ | refine blk_alloc ?_ _)); exact BK101.out)) : gb109 ≠ gb101)); clear BK101; clear HB; have BK101 := n0_; have HB := n1_; have BK109 := n2_; have GW109 := n3_; have GE109 := n4_; have NB101_109 := n5_; have NB109_101 := n6_; clear n0_ n1_ n2_ n3_ n4_ n5_ n6_; clear hb hbox hg; have hnb43 := NB109_101.out; have hnc43 := NB101_109.out; have hcz44_0 : w42.cell? ⟨gb109, 0, none⟩ = some (.int .u64 0) := (blk_cell BK109.out 0).trans rfl; have hcz44_1 : w42.cell? ⟨gb109, 1, none⟩ = some (.int .u64 0) := (blk_cell BK109.out 1).trans rfl; have hcz44_2 : w42.cell? ⟨gb109, 2, none⟩ = some (.slice none 0 0) := (blk_cell BK109.out 2).trans rfl; have hfz44_0 := blk_frozen BK109.out 0; have hfz44_1 := blk_frozen BK109.out 1; have hfz44_2 := blk_frozen BK109.out 2; have hcz45_0 : w42.cell? ⟨gb101, 0, none⟩ = some (.int .i64 a0_0) := (blk_cell BK101.out 0).trans rfl; have hcz45_1 : w42.cell? ⟨gb101, 1, none⟩ = some (.int .i64 a0_1) := (blk_cell BK101.out 1).trans rfl; have hcz45_2 : w42.cell? ⟨gb101, 2, none⟩ = some (.int .u64 a0_2) := (blk_cell BK101.out 2).trans rfl; have hcz45_3 : w42.cell? ⟨gb101, 3, none⟩ = some (.slice (some ad108) l0_3.length c0_3) := (blk_cell BK101.out 3).trans rfl; have hfz45_0 := blk_frozen BK101.out 0; have hfz45_1 := blk_frozen BK101.out 1; have hfz45_2 := blk_frozen BK101.out 2; have hfz45_3 := blk_frozen BK101.out 3)))
              go_ret3
              exact ⟨by first | rfl | (simp [errW_none, errW_some] <;> rfl) | (simp [*, errW_none, errW_some] <;> rfl), by repeat (first | (with_reducible first | exact HB.out | apply below_alloc | apply pw_below_drewN | apply below_drew1 | refine below_set ?_ GE101.out | refine below_set ?_ GE109.out) | exact HB.out)⟩
             ·rw [if_neg c41] at H
              have c41b0 : (((rd_T52 l0_3 x74_2).f0) == a0_2) = false := beq_eq_false_iff_ne.mpr c41
              have c41b1 : (((rd_T52 l0_3 x74_2).f0) != a0_2) = true := bne_iff_ne.mpr c41
              have H' := Aside0.mk H
              clear H
              have p108 : 0 ≤ (x74_2 : Int) := of_decide_eq_true (by first | (with_reducible assumption) | assumption)
              have q108 : x74_2 < (l0_3.length : Int) := of_decide_eq_true (by first | (with_reducible assumption) | assumption)
              obtain ⟨ad108, A108_2, c108_2, e108, hx108_0, hx108_1, hx108_2, hl108_2, hi108_2⟩ := at_T52 HR0_3.out x74_2 p108 q108
              cases e108
              replace hx108_0 := (HB.out.cell (World.block_lt_of_cell? w _ hx108_0)).trans hx108_0
              replace hx108_1 := (HB.out.cell (World.block_lt_of_cell? w _ hx108_1)).trans hx108_1
              replace hx108_2 := (HB.out.cell (World.block_lt_of_cell? w _ hx108_2)).trans hx108_2
              have HR108_2 := Aside0.mk hi108_2
              have HC108_2 := Aside0.mk hl108_2
              clear hi108_2 hl108_2
              replace p108 := eq_true p108
              replace q108 := eq_true q108
              go_wp2_with (first | ((with_reducible refine gate_dst (N := 12) rfl ?_); refine box_event ?hg (N := 12) ?hd (cs := #[.int .u64 0, .int .u64 0, .slice none 0 0]) (t := 52) ?hr ?_; (case hd => rfl); (case hg => rfl); (case hr => first | (go_simp; done) | (go_simp; rfl)); intro gb109 hg w46 hbox hb; have n0_ := Aside0.mk (blk_below (g := gb101) (o := .cells #[.int .i64 a0_0, .int .i64 a0_1, .int .u64 a0_2, .slice (some ad108) l0_3.length c0_3] 25 (0, 0)) (by (with_reducible repeat (first | refine blk_drewN ?_ _ | refine blk_drew ?_ | refine blk_alloc ?_ _)); exact BK101.out) hb); have n1_ := Aside0.mk (below_step (by repeat (first | (with_reducible first | exact HB.out | apply below_alloc | apply pw_below_drewN | apply below_drew1 | refine below_set ?_ GE101.out) | exact HB.out)) hb); have n2_ := Aside0.mk (hbox); have n3_ := Aside0.mk ((by rw [hg]; exact (below_size (by repeat (first | (with_reducible first | exact HB.out | apply below_alloc | apply pw_below_drewN | apply below_drew1 | refine below_set ?_ GE101.out) | exact HB.out))) : w.heap.size ≤ gb109)); have n4_ := Aside0.mk ((by rw [hg]; exact (below_size (by repeat (first | (with_reducible first | exact HB.out | apply below_alloc | apply pw_below_drewN | apply below_drew1 | refine below_set ?_ GE101.out) | exact HB.out))) : w.heap.size ≤ gb109)); have n5_ := Aside0.mk ((by rw [hg]; exact Nat.ne_of_lt (blk_lt (g := gb101) (o := .cells #[.int .i64 a0_0, .int .i64 a0_1, .int .u64 a0_2, .slice (some ad108) l0_3.length c0_3] 25 (0, 0)) (by (with_reducible repeat (first | refine blk_drewN ?_ _ | refine blk_drew ?_ | refine blk_alloc ?_ _)); exact BK101.out)) : gb101 ≠ gb109)); have n6_ := Aside0.mk ((by rw [hg]; exact Nat.ne_of_gt (blk_lt (g := gb101) (o := .cells #[.int .i64 a0_0, .int .i64 a0_1, .int .u64 a0_2, .slice (some ad108) l0_3.length c0_3] 25 (0, 0)) (by (with_reducible repeat (first | refine blk_drewN ?_ _ | refine blk_drew ?_ | refine blk_alloc ?_ _)); exact BK101.out)) : gb109 ≠ gb101)); clear BK101; clear HB; have BK101 := n0_; have HB := n1_; have BK109 := n2_; have GW109 := n3_; have GE109 := n4_; have NB101_109 := n5_; have NB109_101 := n6_; clear n0_ n1_ n2_ n3_ n4_ n5_ n6_; clear hb hbox hg; have hnb47 := NB109_101.out; have hnc47 := NB101_109.out; have hcz48_0 : w46.cell? ⟨gb109, 0, none⟩ = some (.int .u64 0) := (blk_cell BK109.out 0).trans rfl; have hcz48_1 : w46.cell? ⟨gb109, 1, none⟩ = some (.int .u64 0) := (blk_cell BK109.out 1).trans rfl; have hcz48_2 : w46.cell? ⟨gb109, 2, none⟩ = some (.slice none 0 0) := (blk_cell BK109.out 2).trans rfl; have hfz48_0 := blk_frozen BK109.out 0; have hfz48_1 := blk_frozen BK109.out 1; have hfz48_2 := blk_frozen BK109.out 2; have hcz49_0 : w46.cell? ⟨gb101, 0, none⟩ = some (.int .i64 a0_0) := (blk_cell BK101.out 0).trans rfl; have hcz49_1 : w46.cell? ⟨gb101, 1, none⟩ = some (.int .i64 a0_1) := (blk_cell BK101.out 1).trans rfl; have hcz49_2 : w46.cell? ⟨gb101, 2, none⟩ = some (.int .u64 a0_2) := (blk_cell BK101.out 2).trans rfl; have hcz49_3 : w46.cell? ⟨gb101, 3, none⟩ = some (.slice (some ad108) l0_3.length c0_3) := (blk_cell BK101.out 3).trans rfl; have hfz49_0 := blk_frozen BK101.out 0; have hfz49_1 := blk_frozen BK101.out 1; have hfz49_2 := blk_frozen BK101.out 2; have hfz49_3 := blk_frozen BK101.out 3))
              repeat (go_quiet (first | ((with_reducible refine gate_dst (N := 12) rfl ?_); refine box_event ?hg (N := 12) ?hd (cs := #[.int .u64 0, .int .u64 0, .slice none 0 0]) (t := 52) ?hr ?_; (case hd => rfl); (case hg => rfl); (case hr => first | (go_simp; done) | (go_simp; rfl)); intro gb109 hg w46 hbox hb; have n0_ := Aside0.mk (blk_below (g := gb101) (o := .cells #[.int .i64 a0_0, .int .i64 a0_1, .int .u64 a0_2, .slice (some ad108) l0_3.length c0_3] 25 (0, 0)) (by (with_reducible repeat (first | refine blk_drewN ?_ _ | refine blk_drew ?_ | refine blk_alloc ?_ _)); exact BK101.out) hb); have n1_ := Aside0.mk (below_step (by repeat (first | (with_reducible first | exact HB.out | apply below_alloc | apply pw_below_drewN | apply below_drew1 | refine below_set ?_ GE101.out) | exact HB.out)) hb); have n2_ := Aside0.mk (hbox); have n3_ := Aside0.mk ((by rw [hg]; exact (below_size (by repeat (first | (with_reducible first | exact HB.out | apply below_alloc | apply pw_below_drewN | apply below_drew1 | refine below_set ?_ GE101.out) | exact HB.out))) : w.heap.size ≤ gb109)); have n4_ := Aside0.mk ((by rw [hg]; exact (below_size (by repeat (first | (with_reducible first | exact HB.out | apply below_alloc | apply pw_below_drewN | apply below_drew1 | refine below_set ?_ GE101.out) | exact HB.out))) : w.heap.size ≤ gb109)); have n5_ := Aside0.mk ((by rw [hg]; exact Nat.ne_of_lt (blk_lt (g := gb101) (o := .cells #[.int .i64 a0_0, .int .i64 a0_1, .int .u64 a0_2, .slice (some ad108) l0_3.length c0_3] 25 (0, 0)) (by (with_reducible repeat (first | refine blk_drewN ?_ _ | refine blk_drew ?_ | refine blk_alloc ?_ _)); exact BK101.out)) : gb101 ≠ gb109)); have n6_ := Aside0.mk ((by rw [hg]; exact Nat.ne_of_gt (blk_lt (g := gb101) (o := .cells #[.int .i64 a0_0, .int .i64 a0_1, .int .u64 a0_2, .slice (some ad108) l0_3.length c0_3] 25 (0, 0)) (by (with_reducible repeat (first | refine blk_drewN ?_ _ | refine blk_drew ?_ | refine blk_alloc ?_ _)); exact BK101.out)) : gb109 ≠ gb101)); clear BK101; clear HB; have BK101 := n0_; have HB := n1_; have BK109 := n2_; have GW109 := n3_; have GE109 := n4_; have NB101_109 := n5_; have NB109_101 := n6_; clear n0_ n1_ n2_ n3_ n4_ n5_ n6_; clear hb hbox hg; have hnb47 := NB109_101.out; have hnc47 := NB101_109.out; have hcz48_0 : w46.cell? ⟨gb109, 0, none⟩ = some (.int .u64 0) := (blk_cell BK109.out 0).trans rfl; have hcz48_1 : w46.cell? ⟨gb109, 1, none⟩ = some (.int .u64 0) := (blk_cell BK109.out 1).trans rfl; have hcz48_2 : w46.cell? ⟨gb109, 2, none⟩ = some (.slice none 0 0) := (blk_cell BK109.out 2).trans rfl; have hfz48_0 := blk_frozen BK109.out 0; have hfz48_1 := blk_frozen BK109.out 1; have hfz48_2 := blk_frozen BK109.out 2; have hcz49_0 : w46.cell? ⟨gb101, 0, none⟩ = some (.int .i64 a0_0) := (blk_cell BK101.out 0).trans rfl; have hcz49_1 : w46.cell? ⟨gb101, 1, none⟩ = some (.int .i64 a0_1) := (blk_cell BK101.out 1).trans rfl; have hcz49_2 : w46.cell? ⟨gb101, 2, none⟩ = some (.int .u64 a0_2) := (blk_cell BK101.out 2).trans rfl; have hcz49_3 : w46.cell? ⟨gb101, 3, none⟩ = some (.slice (some ad108) l0_3.length c0_3) := (blk_cell BK101.out 3).trans rfl; have hfz49_0 := blk_frozen BK101.out 0; have hfz49_1 := blk_frozen BK101.out 1; have hfz49_2 := blk_frozen BK101.out 2; have hfz49_3 := blk_frozen BK101.out 3)); try go_wp2_with (first | ((with_reducible refine gate_dst (N := 12) rfl ?_); refine box_event ?hg (N := 12) ?hd (cs := #[.int .u64 0, .int .u64 0, .slice none 0 0]) (t := 52) ?hr ?_; (case hd => rfl); (case hg => rfl); (case hr => first | (go_simp; done) | (go_simp; rfl)); intro gb109 hg w46 hbox hb; have n0_ := Aside0.mk (blk_below (g := gb101) (o := .cells #[.int .i64 a0_0, .int .i64 a0_1, .int .u64 a0_2, .slice (some ad108) l0_3.length c0_3] 25 (0, 0)) (by (with_reducible repeat (first | refine blk_drewN ?_ _ | refine blk_drew ?_ | refine blk_alloc ?_ _)); exact BK101.out) hb); have n1_ := Aside0.mk (below_step (by repeat (first | (with_reducible first | exact HB.out | apply below_alloc | apply pw_below_drewN | apply below_drew1 | refine below_set ?_ GE101.out) | exact HB.out)) hb); have n2_ := Aside0.mk (hbox); have n3_ := Aside0.mk ((by rw [hg]; exact (below_size (by repeat (first | (with_reducible first | exact HB.out | apply below_alloc | apply pw_below_drewN | apply below_drew1 | refine below_set ?_ GE101.out) | exact HB.out))) : w.heap.size ≤ gb109)); have n4_ := Aside0.mk ((by rw [hg]; exact (below_size (by repeat (first | (with_reducible first | exact HB.out | apply below_alloc | apply pw_below_drewN | apply below_drew1 | refine below_set ?_ GE101.out) | exact HB.out))) : w.heap.size ≤ gb109)); have n5_ := Aside0.mk ((by rw [hg]; exact Nat.ne_of_lt (blk_lt (g := gb101) (o := .cells #[.int .i64 a0_0, .int .i64 a0_1, .int .u64 a0_2, .slice (some ad108) l0_3.length c0_3] 25 (0, 0)) (by (with_reducible repeat (first | refine blk_drewN ?_ _ | refine blk_drew ?_ | refine blk_alloc ?_ _)); exact BK101.out)) : gb101 ≠ gb109)); have n6_ := Aside0.mk ((by rw [hg]; exact Nat.ne_of_gt (blk_lt (g := gb101) (o := .cells #[.int .i64 a0_0, .int .i64 a0_1, .int .u64 a0_2, .slice (some ad108) l0_3.length c0_3] 25 (0, 0)) (by (with_reducible repeat (first | refine blk_drewN ?_ _ | refine blk_drew ?_ | refine blk_alloc ?_ _)); exact BK101.out)) : gb109 ≠ gb101)); clear BK101; clear HB; have BK101 := n0_; have HB := n1_; have BK109 := n2_; have GW109 := n3_; have GE109 := n4_; have NB101_109 := n5_; have NB109_101 := n6_; clear n0_ n1_ n2_ n3_ n4_ n5_ n6_; clear hb hbox hg; have hnb47 := NB109_101.out; have hnc47 := NB101_109.out; have hcz48_0 : w46.cell? ⟨gb109, 0, none⟩ = some (.int .u64 0) := (blk_cell BK109.out 0).trans rfl; have hcz48_1 : w46.cell? ⟨gb109, 1, none⟩ = some (.int .u64 0) := (blk_cell BK109.out 1).trans rfl; have hcz48_2 : w46.cell? ⟨gb109, 2, none⟩ = some (.slice none 0 0) := (blk_cell BK109.out 2).trans rfl; have hfz48_0 := blk_frozen BK109.out 0; have hfz48_1 := blk_frozen BK109.out 1; have hfz48_2 := blk_frozen BK109.out 2; have hcz49_0 : w46.cell? ⟨gb101, 0, none⟩ = some (.int .i64 a0_0) := (blk_cell BK101.out 0).trans rfl; have hcz49_1 : w46.cell? ⟨gb101, 1, none⟩ = some (.int .i64 a0_1) := (blk_cell BK101.out 1).trans rfl; have hcz49_2 : w46.cell? ⟨gb101, 2, none⟩ = some (.int .u64 a0_2) := (blk_cell BK101.out 2).trans rfl; have hcz49_3 : w46.cell? ⟨gb101, 3, none⟩ = some (.slice (some ad108) l0_3.length c0_3) := (blk_cell BK101.out 3).trans rfl; have hfz49_0 := blk_frozen BK101.out 0; have hfz49_1 := blk_frozen BK101.out 1; have hfz49_2 := blk_frozen BK101.out 2; have hfz49_3 := blk_frozen BK101.out 3)))
              go_roundg k2
              case measure => have := HK1.out; have := HK2.out; omega
              case rel => exact ⟨(wrap64 (x74_2 + 1)), (by first | rfl | (simp; done) | (simp [*]; done)), H', ⟨by have := HK1.out; have := HK2.out; omega⟩, ⟨by (with_reducible repeat (first | refine blk_drewN ?_ _ | refine blk_drew ?_ | refine blk_alloc ?_ _)); refine blk_far ?_ NB101_109.out _; (with_reducible repeat (first | refine blk_drewN ?_ _ | refine blk_drew ?_ | refine blk_alloc ?_ _)); refine blk_far ?_ NB101_109.out _; (with_reducible repeat (first | refine blk_drewN ?_ _ | refine blk_drew ?_ | refine blk_alloc ?_ _)); refine blk_far ?_ NB101_109.out _; (with_reducible repeat (first | refine blk_drewN ?_ _ | refine blk_drew ?_ | refine blk_alloc ?_ _)); exact BK101.out⟩, ⟨by repeat (first | (with_reducible first | exact HB.out | apply below_alloc | apply pw_below_drewN | apply below_drew1 | refine below_set ?_ GE101.out | refine below_set ?_ GE109.out) | exact HB.out)⟩⟩
            ·rw [if_neg c40] at H
             exact absurd H (by simp)
           ·rw [if_neg c39] at H
            exact absurd H (by simp)
          ·rw [if_neg c38] at H
           have c38b0 : decide (x74_2 < (l0_3.length : Int)) = false := decide_eq_false c38
           clear c38
           simp only [Option.some.injEq, Prod.mk.injEq] at H
           obtain ⟨rfl, rfl, rfl⟩ := H
           go_wp2
           repeat (go_quiet (fail); try go_wp2)
           go_ret3
           exact ⟨by first | rfl | (simp [errW_none, errW_some] <;> rfl) | (simp [*, errW_none, errW_some] <;> rfl), by repeat (first | (with_reducible first | exact HB.out | apply below_alloc | apply pw_below_drewN | apply below_drew1 | refine below_set ?_ GE101.out) | exact HB.out)⟩
       ·rw [if_neg c34] at H
        have c34b0 : (t107 == 0) = false := beq_eq_false_iff_ne.mpr c34
        have c34b1 : (t107 != 0) = true := bne_iff_ne.mpr c34
        simp only [Option.some.injEq, Prod.mk.injEq] at H
        obtain ⟨rfl, rfl, rfl⟩ := H
        have hcz50_0 : wr.cell? ⟨gb101, 0, none⟩ = some (.int .i64 a0_0) := (blk_cell BK101.out 0).trans rfl
        have hcz50_1 : wr.cell? ⟨gb101, 1, none⟩ = some (.int .i64 a0_1) := (blk_cell BK101.out 1).trans rfl
        have hcz50_2 : wr.cell? ⟨gb101, 2, none⟩ = some (.int .u64 a0_2) := (blk_cell BK101.out 2).trans rfl
        have hcz50_3 : wr.cell? ⟨gb101, 3, none⟩ = some (.slice A0_3 l0_3.length c0_3) := (blk_cell BK101.out 3).trans rfl
        have hfz50_0 := blk_frozen BK101.out 0
        have hfz50_1 := blk_frozen BK101.out 1
        have hfz50_2 := blk_frozen BK101.out 2
        have hfz50_3 := blk_frozen BK101.out 3
        go_wp2_with (first | (go_at_call 53; (with_reducible refine (epicycleref04_Check.calls k1 _ _ l0_3 t106 t107 _ ?side1 ?side2 A33.out).mono ?_); (case side1 => repeat (first | exact (Kd.C_below HR0_3.out HB.out) | (with_reducible refine Kd.C_alloc ?_ _) | (with_reducible refine Kd.C_drewN ?_ _) | (with_reducible refine Kd.C_drew ?_))); (case side2 => exact HC0_3.out); rintro e w51 ⟨rfl, hb⟩; have n0_ := Aside0.mk (blk_below (g := gb101) (o := .cells #[.int .i64 a0_0, .int .i64 a0_1, .int .u64 a0_2, .slice A0_3 l0_3.length c0_3] 25 (0, 0)) (by (with_reducible repeat (first | refine blk_drewN ?_ _ | refine blk_drew ?_ | refine blk_alloc ?_ _)); exact BK101.out) hb); have n1_ := Aside0.mk (below_step (by repeat (first | (with_reducible first | exact HB.out | apply below_alloc | apply pw_below_drewN | apply below_drew1 | refine below_set ?_ GE101.out) | exact HB.out)) hb); clear BK101; clear HB; have BK101 := n0_; have HB := n1_; clear n0_ n1_; (try clear hb); (try clear hb2); (try clear hk); (try clear hi)))
        repeat (go_quiet (first | (go_at_call 53; (with_reducible refine (epicycleref04_Check.calls k1 _ _ l0_3 t106 t107 _ ?side1 ?side2 A33.out).mono ?_); (case side1 => repeat (first | exact (Kd.C_below HR0_3.out HB.out) | (with_reducible refine Kd.C_alloc ?_ _) | (with_reducible refine Kd.C_drewN ?_ _) | (with_reducible refine Kd.C_drew ?_))); (case side2 => exact HC0_3.out); rintro e w51 ⟨rfl, hb⟩; have n0_ := Aside0.mk (blk_below (g := gb101) (o := .cells #[.int .i64 a0_0, .int .i64 a0_1, .int .u64 a0_2, .slice A0_3 l0_3.length c0_3] 25 (0, 0)) (by (with_reducible repeat (first | refine blk_drewN ?_ _ | refine blk_drew ?_ | refine blk_alloc ?_ _)); exact BK101.out) hb); have n1_ := Aside0.mk (below_step (by repeat (first | (with_reducible first | exact HB.out | apply below_alloc | apply pw_below_drewN | apply below_drew1 | refine below_set ?_ GE101.out) | exact HB.out)) hb); clear BK101; clear HB; have BK101 := n0_; have HB := n1_; clear n0_ n1_; (try clear hb); (try clear hb2); (try clear hk); (try clear hi))); try go_wp2_with (first | (go_at_call 53; (with_reducible refine (epicycleref04_Check.calls k1 _ _ l0_3 t106 t107 _ ?side1 ?side2 A33.out).mono ?_); (case side1 => repeat (first | exact (Kd.C_below HR0_3.out HB.out) | (with_reducible refine Kd.C_alloc ?_ _) | (with_reducible refine Kd.C_drewN ?_ _) | (with_reducible refine Kd.C_drew ?_))); (case side2 => exact HC0_3.out); rintro e w51 ⟨rfl, hb⟩; have n0_ := Aside0.mk (blk_below (g := gb101) (o := .cells #[.int .i64 a0_0, .int .i64 a0_1, .int .u64 a0_2, .slice A0_3 l0_3.length c0_3] 25 (0, 0)) (by (with_reducible repeat (first | refine blk_drewN ?_ _ | refine blk_drew ?_ | refine blk_alloc ?_ _)); exact BK101.out) hb); have n1_ := Aside0.mk (below_step (by repeat (first | (with_reducible first | exact HB.out | apply below_alloc | apply pw_below_drewN | apply below_drew1 | refine below_set ?_ GE101.out) | exact HB.out)) hb); clear BK101; clear HB; have BK101 := n0_; have HB := n1_; clear n0_ n1_; (try clear hb); (try clear hb2); (try clear hk); (try clear hi))))
        go_ret3
        exact ⟨by first | rfl | (simp [errW_none, errW_some] <;> rfl) | (simp [*, errW_none, errW_some] <;> rfl), by repeat (first | (with_reducible first | exact HB.out | apply below_alloc | apply pw_below_drewN | apply below_drew1 | refine below_set ?_ GE101.out) | exact HB.out)⟩
end Go.Proofs.Ythnpjjpdlihepaa.XO
end
section
namespace Go.Proofs.Ythnpjjpdlihepaa.F06
open Go Go.RowKit Go.Proofs.YthnpjjpdlihepaaW.PrintWords Go.Proofs.YthnpjjpdlihepaaW.PrintLast Go.Proofs.YthnpjjpdlihepaaW.PrintMore Go.Proofs.Ythnpjjpdlihepaa.Given Go.Proofs.Ythnpjjpdlihepaa.XS Go.Proofs.Ythnpjjpdlihepaa.XT
set_option linter.unusedSimpArgs false
def cellsP (x : S65) : List Value := [.int .u64 x.f0, .int .i64 x.f1]
def cellsE (x : S67 × Nat) : List Value := [.int .u64 x.1.f0, .int .u64 x.1.f1, .slice (some ⟨x.2, 0, none⟩) x.1.f2.length x.1.f2.length]
theorem flat_at {α : Type} {c : α → List Value} {n : Nat} (hc : ∀ x, (c x).length = n) : ∀ (l : List α) (j : Nat) (x : α), l[j]? = some x → ((l.flatMap c).drop (j * n)).take n = c x := by
  intro l
  induction l with
  | nil => intro j x h; simp at h
  | cons y t ih =>
    intro j x h
    rw [List.flatMap_cons]
    cases j with
    | zero =>
      simp at h
      subst h
      rw [Nat.zero_mul, List.drop_zero, List.take_append_of_le_length (by rw [hc]; exact Nat.le_refl _), List.take_of_length_le (by rw [hc]; exact Nat.le_refl _)]
    | succ j =>
      have e : (j + 1) * n = (c y).length + j * n := by rw [hc, Nat.add_mul, Nat.one_mul, Nat.add_comm]
      rw [e, List.drop_append]
      rw [show ((c y).drop ((c y).length + j * n)) = [] from List.drop_eq_nil_of_le (by omega), List.nil_append, show (c y).length + j * n - (c y).length = j * n by omega]
      exact ih j x (by simpa using h)
theorem flat_length {α : Type} {c : α → List Value} {n : Nat} (hc : ∀ x, (c x).length = n) (l : List α) : (l.flatMap c).length = l.length * n := by
  induction l with
  | nil => simp
  | cons y t ih => rw [List.flatMap_cons, List.length_append, ih, hc, List.length_cons, Nat.add_mul, Nat.one_mul, Nat.add_comm]
theorem powers_R {W : World} {base b : Nat} {ok : Nat → Prop} {l : List S65} (hb : base ≤ b) (ho : ok b) (hl : l.length ≤ 1000) (hh : W.heap[b]? = some (.cells (l.flatMap cellsP).toArray 65 (0, 0))) :
    Kd.R k65 65 W base ok (.slice (some ⟨b, 0, none⟩) l.length l.length) l := by
  have hn : (l.flatMap cellsP).length = l.length * 2 := flat_length (c := cellsP) (n := 2) (fun _ => rfl) l
  refine ⟨fun k e => by simp [Value.ownBlock] at e; subst e; exact ho, l.flatMap cellsP, ⟨hn, .inr ⟨b, l.length, _, rfl, hb, hh, Nat.le_refl _, by unfold maxLen; omega, by rw [List.size_toArray, hn]; rfl, by exact List.take_of_length_le (by rw [hn]; exact Nat.le_refl _)⟩⟩, hn, fun j p hj => ?_⟩
  have e : ((l.flatMap cellsP).drop (j * 2)).take 2 = cellsP p := flat_at (c := cellsP) (n := 2) (fun _ => rfl) l j p hj
  show (k65).M W base _ p (((l.flatMap cellsP).drop (j * 2)).take 2)
  rw [e]
  exact k65_mkM _ _ _ p
theorem entries_S {W : World} {base g n : Nat} {es : List (S67 × Nat)} (hb : base ≤ g) (hg : W.heap[g]? = some (.cells (es.flatMap cellsE).toArray 67 (0, 0))) (hn : n = es.length) (hl : es.length ≤ 1000)
    (hx : ∀ x ∈ es, base ≤ x.2 ∧ x.2 ≠ g ∧ x.1.f2.length ≤ 1000 ∧ W.heap[x.2]? = some (.cells (x.1.f2.flatMap cellsP).toArray 65 (0, 0))) (hd : (es.map (·.2)).Nodup) :
    Kd.S k67 67 W base (fun _ => True) (.slice (some ⟨g, 0, none⟩) n n) (es.map (·.1)) := by
  subst hn
  have hk : (es.flatMap cellsE).length = es.length * 3 := flat_length (c := cellsE) (n := 3) (fun _ => rfl) es
  obtain ⟨f, hr⟩ := Kd.reps_tag (d := k67) (w := W) (base := base) (ok := fun k => True ∧ some k ≠ (Value.slice (some ⟨g, 0, none⟩) es.length es.length).ownBlock) (xs := es.map (·.1)) (inner := es.flatMap cellsE) (fun j k => ∃ x, es[j]? = some x ∧ k = x.2)
    (fun i j k ⟨x, hx1, hx2⟩ ⟨y, hy1, hy2⟩ => by
      have h1 : (es.map (·.2))[i]? = some k := by rw [List.getElem?_map, hx1, hx2]; rfl
      have h2 : (es.map (·.2))[j]? = some k := by rw [List.getElem?_map, hy1, hy2]; rfl
      have hi : i < (es.map (·.2)).length := (List.getElem?_eq_some_iff.1 h1).1
      exact (List.getElem?_inj hi hd).1 (h1.trans h2.symm))
    (fun j k ⟨x, hx1, hx2⟩ => ⟨trivial, fun e => by
      simp [Value.ownBlock] at e
      exact (hx x (List.mem_of_getElem? hx1)).2.1 (hx2.symm.trans e)⟩)
    (by rw [hk, List.length_map]; rfl)
    (fun j e he => by
      rw [List.getElem?_map] at he
      obtain ⟨x, hx1, rfl⟩ := Option.map_eq_some_iff.1 he
      obtain ⟨h1, h2, h3, h4⟩ := hx x (List.mem_of_getElem? hx1)
      have e : ((es.flatMap cellsE).drop (j * 3)).take 3 = cellsE x := flat_at (c := cellsE) (n := 3) (fun _ => rfl) es j x hx1
      show (k67).M W base _ x.1 (((es.flatMap cellsE).drop (j * 3)).take 3)
      rw [e]
      exact k67_mkM _ _ _ x.1 (powers_R h1 ⟨x, hx1, rfl⟩ h3 h4))
  refine ⟨f, fun k e => trivial, es.flatMap cellsE, ?_, ?_⟩
  · rw [List.length_zipIdx, List.length_map]
    exact ⟨hk, .inr ⟨g, es.length, _, rfl, hb, hg, Nat.le_refl _, by unfold maxLen; omega, by rw [List.size_toArray, hk]; rfl, by exact List.take_of_length_le (by rw [hk]; exact Nat.le_refl _)⟩⟩
  · exact hr
theorem alloc_sz (w : World) (o : Obj) : (w.alloc o).heap.size = w.heap.size + 1 := Array.size_push _
theorem alloc_new' {w : World} {o : Obj} {k : Nat} (h : k = w.heap.size) : (w.alloc o).heap[k]? = some o := by subst h; exact blk_new w o
theorem alloc_old' {w : World} {o : Obj} {k : Nat} {r : Option Obj} (h : k < w.heap.size) (hr : w.heap[k]? = r) : (w.alloc o).heap[k]? = r := by
  show (w.heap.push o)[k]? = _
  rw [Array.getElem?_push, if_neg (by omega)]
  exact hr
theorem drewN_heap (w : World) (n : Nat) : (w.drewN n).heap = w.heap := rfl
def e3 : S67 := ⟨3, 2, [⟨2, 1⟩]⟩
def e5 : S67 := ⟨5, 2, [⟨2, 2⟩]⟩
def e7 : S67 := ⟨7, 3, [⟨2, 1⟩, ⟨3, 1⟩]⟩
def known0 : List S67 := [e3, e7, ⟨29, 2, [⟨2, 2⟩, ⟨7, 1⟩]⟩, ⟨4179340454199820289, 3, [⟨2, 57⟩, ⟨29, 1⟩]⟩]
def known1 : List S67 := [e3, ⟨1945555039024054273, 5, [⟨2, 56⟩, ⟨3, 3⟩]⟩]
def known2 : List S67 := [e5, ⟨180143985094819841, 6, [⟨2, 55⟩, ⟨5, 1⟩]⟩]
def known3 : List S67 := [e3, e5, ⟨754974721, 11, [⟨2, 24⟩, ⟨3, 2⟩, ⟨5, 1⟩]⟩]
def known4 : List S67 := [e3, e7, ⟨469762049, 3, [⟨2, 26⟩, ⟨7, 1⟩]⟩]
def known5 : List S67 := [e5, ⟨167772161, 3, [⟨2, 25⟩, ⟨5, 1⟩]⟩]
def field_known.f (i : Int) : Option (List S67 × Int) := some (
  if i = 0 then (known0, 4179340454199820289) else if i = 1 then (known1, 1945555039024054273) else if i = 2 then (known2, 180143985094819841) else if i = 3 then (known3, 754974721) else if i = 4 then (known4, 469762049) else if i = 5 then (known5, 167772161) else ([], 0))
def KnownAt (i : Int) (l : List S67) (p : Int) : Prop := ∀ w : World, Calls Try.prog 55 #[.int .i64 i] w fun e w' => ∃ v0_ : Value, e = .returned (.tuple #[v0_, .int .u64 p]) ∧ Kd.S k67 67 w' w.heap.size (fun _ => True) v0_ l ∧ Below w.heap.size w w'
set_option maxHeartbeats 2000000 in
set_option maxRecDepth 10000 in
theorem known_0 : KnownAt 0 known0 4179340454199820289 := by
  intro w
  go_enter Try.func55, Try.ntmps55
  go_wp2
  go_quiet (fail)
  go_wp2
  go_ret2
  refine ⟨.slice (some ⟨w.heap.size + 1 + 1 + 1 + 1 + 1 + 1 + 1 + 1, 0, none⟩) 4 4, rfl, ?_, by repeat (first | exact Below.refl _ _ | apply below_alloc | apply pw_below_drewN)⟩
  refine entries_S (es := [(e3, w.heap.size), (e7, w.heap.size + 1 + 1 + 1 + 1), (⟨29, 2, [⟨2, 2⟩, ⟨7, 1⟩]⟩, w.heap.size + 1 + 1 + 1 + 1 + 1 + 1), (⟨4179340454199820289, 3, [⟨2, 57⟩, ⟨29, 1⟩]⟩, w.heap.size + 1 + 1 + 1 + 1 + 1 + 1 + 1)]) (by omega) (by (try rw [drewN_heap]); repeat (first | exact (alloc_new' (by simp only [alloc_sz])).trans rfl | refine alloc_old' (by simp only [alloc_sz]; omega) ?_)) rfl (by simp) ?_ ?_
  · intro x hx
    simp only [List.mem_cons, List.not_mem_nil, or_false] at hx
    rcases hx with rfl | rfl | rfl | rfl
    all_goals exact ⟨by dsimp only; omega, by dsimp only; omega, by simp [e3, e5, e7], by (try rw [drewN_heap]); repeat (first | exact (alloc_new' (by simp only [alloc_sz])).trans rfl | refine alloc_old' (by simp only [alloc_sz]; omega) ?_)⟩
  · simp only [List.map_cons, List.map_nil, List.nodup_cons, List.mem_cons, List.not_mem_nil, or_false, not_or]; (repeat' constructor) <;> first | omega | simp
set_option maxHeartbeats 2000000 in
set_option maxRecDepth 10000 in
theorem known_1 : KnownAt 1 known1 1945555039024054273 := by
  intro w
  go_enter Try.func55, Try.ntmps55
  go_wp2
  go_quiet (fail)
  go_wp2
  go_ret2
  refine ⟨.slice (some ⟨w.heap.size + 1 + 1 + 1 + 1 + 1 + 1 + 1, 0, none⟩) 2 2, rfl, ?_, by repeat (first | exact Below.refl _ _ | apply below_alloc | apply pw_below_drewN)⟩
  refine entries_S (es := [(e3, w.heap.size), (⟨1945555039024054273, 5, [⟨2, 56⟩, ⟨3, 3⟩]⟩, w.heap.size + 1 + 1 + 1 + 1 + 1 + 1)]) (by omega) (by (try rw [drewN_heap]); repeat (first | exact (alloc_new' (by simp only [alloc_sz])).trans rfl | refine alloc_old' (by simp only [alloc_sz]; omega) ?_)) rfl (by simp) ?_ ?_
  · intro x hx
    simp only [List.mem_cons, List.not_mem_nil, or_false] at hx
    rcases hx with rfl | rfl
    all_goals exact ⟨by dsimp only; omega, by dsimp only; omega, by simp [e3, e5, e7], by (try rw [drewN_heap]); repeat (first | exact (alloc_new' (by simp only [alloc_sz])).trans rfl | refine alloc_old' (by simp only [alloc_sz]; omega) ?_)⟩
  · simp only [List.map_cons, List.map_nil, List.nodup_cons, List.mem_cons, List.not_mem_nil, or_false, not_or]; (repeat' constructor) <;> first | omega | simp
set_option maxHeartbeats 2000000 in
set_option maxRecDepth 10000 in
theorem known_2 : KnownAt 2 known2 180143985094819841 := by
  intro w
  go_enter Try.func55, Try.ntmps55
  go_wp2
  go_quiet (fail)
  go_wp2
  go_ret2
  refine ⟨.slice (some ⟨w.heap.size + 1 + 1 + 1 + 1 + 1 + 1 + 1, 0, none⟩) 2 2, rfl, ?_, by repeat (first | exact Below.refl _ _ | apply below_alloc | apply pw_below_drewN)⟩
  refine entries_S (es := [(e5, w.heap.size + 1 + 1), (⟨180143985094819841, 6, [⟨2, 55⟩, ⟨5, 1⟩]⟩, w.heap.size + 1 + 1 + 1 + 1 + 1 + 1)]) (by omega) (by (try rw [drewN_heap]); repeat (first | exact (alloc_new' (by simp only [alloc_sz])).trans rfl | refine alloc_old' (by simp only [alloc_sz]; omega) ?_)) rfl (by simp) ?_ ?_
  · intro x hx
    simp only [List.mem_cons, List.not_mem_nil, or_false] at hx
    rcases hx with rfl | rfl
    all_goals exact ⟨by dsimp only; omega, by dsimp only; omega, by simp [e3, e5, e7], by (try rw [drewN_heap]); repeat (first | exact (alloc_new' (by simp only [alloc_sz])).trans rfl | refine alloc_old' (by simp only [alloc_sz]; omega) ?_)⟩
  · simp only [List.map_cons, List.map_nil, List.nodup_cons, List.mem_cons, List.not_mem_nil, or_false, not_or]; (repeat' constructor) <;> first | omega | simp
set_option maxHeartbeats 2000000 in
set_option maxRecDepth 10000 in
theorem known_3 : KnownAt 3 known3 754974721 := by
  intro w
  go_enter Try.func55, Try.ntmps55
  go_wp2
  go_quiet (fail)
  go_wp2
  go_ret2
  refine ⟨.slice (some ⟨w.heap.size + 1 + 1 + 1 + 1 + 1 + 1 + 1, 0, none⟩) 3 3, rfl, ?_, by repeat (first | exact Below.refl _ _ | apply below_alloc | apply pw_below_drewN)⟩
  refine entries_S (es := [(e3, w.heap.size), (e5, w.heap.size + 1 + 1), (⟨754974721, 11, [⟨2, 24⟩, ⟨3, 2⟩, ⟨5, 1⟩]⟩, w.heap.size + 1 + 1 + 1 + 1 + 1 + 1)]) (by omega) (by (try rw [drewN_heap]); repeat (first | exact (alloc_new' (by simp only [alloc_sz])).trans rfl | refine alloc_old' (by simp only [alloc_sz]; omega) ?_)) rfl (by simp) ?_ ?_
  · intro x hx
    simp only [List.mem_cons, List.not_mem_nil, or_false] at hx
    rcases hx with rfl | rfl | rfl
    all_goals exact ⟨by dsimp only; omega, by dsimp only; omega, by simp [e3, e5, e7], by (try rw [drewN_heap]); repeat (first | exact (alloc_new' (by simp only [alloc_sz])).trans rfl | refine alloc_old' (by simp only [alloc_sz]; omega) ?_)⟩
  · simp only [List.map_cons, List.map_nil, List.nodup_cons, List.mem_cons, List.not_mem_nil, or_false, not_or]; (repeat' constructor) <;> first | omega | simp
set_option maxHeartbeats 2000000 in
set_option maxRecDepth 10000 in
theorem known_4 : KnownAt 4 known4 469762049 := by
  intro w
  go_enter Try.func55, Try.ntmps55
  go_wp2
  go_quiet (fail)
  go_wp2
  go_ret2
  refine ⟨.slice (some ⟨w.heap.size + 1 + 1 + 1 + 1 + 1 + 1 + 1, 0, none⟩) 3 3, rfl, ?_, by repeat (first | exact Below.refl _ _ | apply below_alloc | apply pw_below_drewN)⟩
  refine entries_S (es := [(e3, w.heap.size), (e7, w.heap.size + 1 + 1 + 1 + 1), (⟨469762049, 3, [⟨2, 26⟩, ⟨7, 1⟩]⟩, w.heap.size + 1 + 1 + 1 + 1 + 1 + 1)]) (by omega) (by (try rw [drewN_heap]); repeat (first | exact (alloc_new' (by simp only [alloc_sz])).trans rfl | refine alloc_old' (by simp only [alloc_sz]; omega) ?_)) rfl (by simp) ?_ ?_
  · intro x hx
    simp only [List.mem_cons, List.not_mem_nil, or_false] at hx
    rcases hx with rfl | rfl | rfl
    all_goals exact ⟨by dsimp only; omega, by dsimp only; omega, by simp [e3, e5, e7], by (try rw [drewN_heap]); repeat (first | exact (alloc_new' (by simp only [alloc_sz])).trans rfl | refine alloc_old' (by simp only [alloc_sz]; omega) ?_)⟩
  · simp only [List.map_cons, List.map_nil, List.nodup_cons, List.mem_cons, List.not_mem_nil, or_false, not_or]; (repeat' constructor) <;> first | omega | simp
set_option maxHeartbeats 2000000 in
set_option maxRecDepth 10000 in
theorem known_5 : KnownAt 5 known5 167772161 := by
  intro w
  go_enter Try.func55, Try.ntmps55
  go_wp2
  go_quiet (fail)
  go_wp2
  go_ret2
  refine ⟨.slice (some ⟨w.heap.size + 1 + 1 + 1 + 1 + 1 + 1 + 1, 0, none⟩) 2 2, rfl, ?_, by repeat (first | exact Below.refl _ _ | apply below_alloc | apply pw_below_drewN)⟩
  refine entries_S (es := [(e5, w.heap.size + 1 + 1), (⟨167772161, 3, [⟨2, 25⟩, ⟨5, 1⟩]⟩, w.heap.size + 1 + 1 + 1 + 1 + 1 + 1)]) (by omega) (by (try rw [drewN_heap]); repeat (first | exact (alloc_new' (by simp only [alloc_sz])).trans rfl | refine alloc_old' (by simp only [alloc_sz]; omega) ?_)) rfl (by simp) ?_ ?_
  · intro x hx
    simp only [List.mem_cons, List.not_mem_nil, or_false] at hx
    rcases hx with rfl | rfl
    all_goals exact ⟨by dsimp only; omega, by dsimp only; omega, by simp [e3, e5, e7], by (try rw [drewN_heap]); repeat (first | exact (alloc_new' (by simp only [alloc_sz])).trans rfl | refine alloc_old' (by simp only [alloc_sz]; omega) ?_)⟩
  · simp only [List.map_cons, List.map_nil, List.nodup_cons, List.mem_cons, List.not_mem_nil, or_false, not_or]; (repeat' constructor) <;> first | omega | simp
set_option maxHeartbeats 1000000 in
theorem known_none {i : Int} (h : ¬ (i = 0 ∨ i = 1 ∨ i = 2 ∨ i = 3 ∨ i = 4 ∨ i = 5)) : KnownAt i [] 0 := by
  intro w
  have b0 : (i == 0) = false := beq_eq_false_iff_ne.mpr (by omega)
  have b1 : (i == 1) = false := beq_eq_false_iff_ne.mpr (by omega)
  have b2 : (i == 2) = false := beq_eq_false_iff_ne.mpr (by omega)
  have b3 : (i == 3) = false := beq_eq_false_iff_ne.mpr (by omega)
  have b4 : (i == 4) = false := beq_eq_false_iff_ne.mpr (by omega)
  have b5 : (i == 5) = false := beq_eq_false_iff_ne.mpr (by omega)
  clear h
  go_enter Try.func55, Try.ntmps55
  go_wp2
  go_ret2
  exact ⟨_, rfl, Kd.S_nil _ _ _ _ _, by repeat (first | exact Below.refl _ _ | apply below_alloc | apply pw_below_drewN)⟩
theorem field_known.calls (a0 : Int) (r1 : List S67) (r2 : Int) (w : World) (h : field_known.f a0 = some (r1, r2)) :
    Calls Try.prog 55 #[.int .i64 a0] w fun e w' => ∃ v0_ : Value, e = .returned (.tuple #[v0_, .int .u64 r2]) ∧ Kd.S k67 67 w' w.heap.size (fun _ => True) v0_ r1 ∧ Below w.heap.size w w' := by
  have h := Option.some.inj h
  by_cases h0 : a0 = 0
  · subst h0; obtain ⟨rfl, rfl⟩ := Prod.mk.inj h; exact known_0 w
  by_cases h1 : a0 = 1
  · subst h1; obtain ⟨rfl, rfl⟩ := Prod.mk.inj h; exact known_1 w
  by_cases h2 : a0 = 2
  · subst h2; obtain ⟨rfl, rfl⟩ := Prod.mk.inj h; exact known_2 w
  by_cases h3 : a0 = 3
  · subst h3; obtain ⟨rfl, rfl⟩ := Prod.mk.inj h; exact known_3 w
  by_cases h4 : a0 = 4
  · subst h4; obtain ⟨rfl, rfl⟩ := Prod.mk.inj h; exact known_4 w
  by_cases h5 : a0 = 5
  · subst h5; obtain ⟨rfl, rfl⟩ := Prod.mk.inj h; exact known_5 w
  rw [if_neg h0, if_neg h1, if_neg h2, if_neg h3, if_neg h4, if_neg h5] at h
  obtain ⟨rfl, rfl⟩ := Prod.mk.inj h
  exact known_none (by omega) w
end Go.Proofs.Ythnpjjpdlihepaa.F06
end
section
namespace Go.Proofs.Ythnpjjpdlihepaa.XS
open Go Go.RowKit Go.Proofs.YthnpjjpdlihepaaW.PrintWords Go.Proofs.YthnpjjpdlihepaaW.PrintLast Go.Proofs.YthnpjjpdlihepaaW.PrintMore Go.Proofs.Ythnpjjpdlihepaa.Given Go.Proofs.Ythnpjjpdlihepaa.M
section digit
variable {Y h l u d q r : Int}
theorem digit_le (hY : Y = h * 4294967296 + l) (hl : 0 ≤ l) (hh : 2147483648 ≤ h) (he : q * h + r = u) (hc : q * l ≤ 4294967296 * r + d) : q ≤ (u * 4294967296 + d) / Y := by
  have e : q * Y = q * h * 4294967296 + q * l := by rw [hY, Int.mul_add, ← Int.mul_assoc]
  have hp : 0 < Y := by omega
  refine Int.le_ediv_of_mul_le hp ?_
  omega
theorem digit_lt (hY : Y = h * 4294967296 + l) (hl : 0 ≤ l) (hh : 2147483648 ≤ h) (he : q * h + r = u) (hc : 4294967296 * r + d < q * l) : (u * 4294967296 + d) / Y < q := by
  have e : q * Y = q * h * 4294967296 + q * l := by rw [hY, Int.mul_add, ← Int.mul_assoc]
  have hp : 0 < Y := by omega
  refine Int.ediv_lt_of_lt_mul hp ?_
  omega
theorem digit_top (hp : 0 < Y) (hu : u < Y) (hd : d < 4294967296) : (u * 4294967296 + d) / Y < 4294967296 := by
  refine Int.ediv_lt_of_lt_mul hp ?_
  omega
end digit
theorem mul_le_of {a b A B : Int} (ha : 0 ≤ a) (hb : 0 ≤ b) (hA : a ≤ A) (hB : b ≤ B) : a * b ≤ A * B :=
  Int.mul_le_mul hA hB hb (by omega)
section
variable {Y s h l u d e : Int}
theorem div_l0 {R : Int × Int} (hY : Y = h * 4294967296 + l) (hl : 0 ≤ l) (hl2 : l < 4294967296) (hh : 2147483648 ≤ h) (hh2 : h < 4294967296) (hu0 : 0 ≤ u) (hu : u < Y) (hd0 : 0 ≤ d) (hd : d < 4294967296)
    (hR : Ev (fun k => bits_Div64.j2 k Y s h l u d e ((u * 4294967296 + d) / Y)) R) (n : Nat) :
    ∀ q r : Int, q * h + r = u → 0 ≤ r → r < 4294967296 → (u * 4294967296 + d) / Y ≤ q → q ≤ 4294967297 → q - (u * 4294967296 + d) / Y = n →
    Ev (fun k => bits_Div64.l0 k Y s h l u d e q r) R := by
  have hp : 0 < Y := by omega
  have htop := digit_top hp hu hd
  have hq0 : 0 ≤ (u * 4294967296 + d) / Y := Int.ediv_nonneg (by omega) (by omega)
  generalize hQ : (u * 4294967296 + d) / Y = Q at *
  have step : ∀ q r : Int, q * h + r = u → 0 ≤ r → r < 4294967296 → Q < q → q ≤ 4294967297 → (Q < q - 1 → Ev (fun k => bits_Div64.l0 k Y s h l u d e (q - 1) (r + h)) R) →
      (r + h < 4294967296 → Q = q - 1 → Ev (fun k => bits_Div64.l0 k Y s h l u d e (q - 1) (r + h)) R) →
      Ev (fun k => bits_Div64.j1 k Y s h l u d e q r true) R := by
    intro q r he hr0 hr hlt hq hnext hnext2
    by_cases hb : r + h < 4294967296
    · have hE : Ev (fun k => bits_Div64.l0 k Y s h l u d e (q - 1) (r + h)) R := by
        by_cases hx : Q < q - 1
        · exact hnext hx
        · exact hnext2 hb (by omega)
      refine Ev.step (fun k => ?_) hE
      simp only [bits_Div64.j1, if_true]
      rw [wu64_id (r + h) (by omega) (by omega), if_neg (by omega), wu64_id (q - 1) (by omega) (by omega)]
    · have hle : q - 1 ≤ Q := by
        rw [← hQ]
        refine digit_le (r := r + h) hY hl hh ?_ ?_
        · rw [Int.sub_mul]; omega
        · have := mul_le_of (a := q - 1) (b := l) (A := 4294967296) (B := 4294967295) (by omega) hl (by omega) (by omega)
          omega
      have hQe : Q = q - 1 := by omega
      refine Ev.step (fun k => ?_) hR
      simp only [bits_Div64.j1, if_true]
      rw [wu64_id (r + h) (by omega) (by omega), if_pos (by omega), wu64_id (q - 1) (by omega) (by omega), hQe]
  induction n with
  | zero =>
    intro q r he hr0 hr hQq hq hn
    obtain rfl : Q = q := by omega
    have hnc : ¬ (4294967296 * r + d < Q * l) := by
      intro hc
      have := digit_lt hY hl hh he hc
      omega
    have hm := mul_le_of (a := Q) (b := l) (A := 4294967297) (B := 4294967295) (by omega) hl (by omega) (by omega)
    have hm0 : 0 ≤ Q * l := Int.mul_nonneg hq0 hl
    refine Ev.step (f := fun k => bits_Div64.j1 k Y s h l u d e Q r false) (fun k => ?_) (Ev.step (fun k => ?_) hR)
    · simp only [bits_Div64.l0]
      rw [if_neg (by omega), wu64_id (Q * l) hm0 (by omega), wu64_id (4294967296 * r) (by omega) (by omega), wu64_id (4294967296 * r + d) (by omega) (by omega), decide_eq_false (by omega)]
    · simp only [bits_Div64.j1]
      rw [if_neg (by simp)]
  | succ n ih =>
    intro q r he hr0 hr hQq hq hn
    have hlt : Q < q := by omega
    have hc : 4294967296 ≤ q ∨ 4294967296 * r + d < q * l := by
      by_cases h1 : 4294967296 ≤ q
      · exact .inl h1
      · right
        refine Classical.byContradiction fun h2 => ?_
        have := digit_le (q := q) (r := r) hY hl hh he (Int.not_lt.1 h2)
        omega
    have hj := step q r he hr0 hr hlt hq (fun hx => by
        by_cases hb : r + h < 4294967296
        · exact ih (q - 1) (r + h) (by rw [Int.sub_mul]; omega) (by omega) hb (by omega) (by omega) (by omega)
        · exfalso
          have hle : q - 1 ≤ Q := by
            rw [← hQ]
            refine digit_le (r := r + h) hY hl hh ?_ ?_
            · rw [Int.sub_mul]; omega
            · have := mul_le_of (a := q - 1) (b := l) (A := 4294967296) (B := 4294967295) (by omega) hl (by omega) (by omega)
              omega
          omega)
      (fun hb hx => ih (q - 1) (r + h) (by rw [Int.sub_mul]; omega) (by omega) hb (by omega) (by omega) (by omega))
    have hm := mul_le_of (a := q) (b := l) (A := 4294967297) (B := 4294967295) (by omega) hl (by omega) (by omega)
    have hm0 : 0 ≤ q * l := Int.mul_nonneg (by omega) hl
    refine Ev.step (fun k => ?_) hj
    simp only [bits_Div64.l0]
    by_cases h1 : 4294967296 ≤ q
    · rw [if_pos (by omega)]
    · rw [if_neg (by omega), wu64_id (q * l) hm0 (by omega), wu64_id (4294967296 * r) (by omega) (by omega), wu64_id (4294967296 * r + d) (by omega) (by omega), decide_eq_true (by omega)]
theorem div_l1 {q1 : Int} (hY : Y = h * 4294967296 + l) (hl : 0 ≤ l) (hl2 : l < 4294967296) (hh : 2147483648 ≤ h) (hh2 : h < 4294967296) (hu0 : 0 ≤ u) (hu : u < Y) (hd0 : 0 ≤ d) (hd : d < 4294967296) (hs : 0 ≤ s) (hq1 : 0 ≤ q1) (hq1' : q1 < 4294967296) (n : Nat) :
    ∀ q r : Int, q * h + r = u → 0 ≤ r → r < 4294967296 → (u * 4294967296 + d) / Y ≤ q → q ≤ 4294967297 → q - (u * 4294967296 + d) / Y = n →
    Ev (fun k => bits_Div64.l1 k Y s h l d q1 r u q) (q1 * 4294967296 + (u * 4294967296 + d) / Y, shr .u64 ((u * 4294967296 + d) % Y) s) := by
  have hp : 0 < Y := by omega
  have htop := digit_top hp hu hd
  have hq0 : 0 ≤ (u * 4294967296 + d) / Y := Int.ediv_nonneg (by omega) (by omega)
  have hmod : (u * 4294967296 + d) - (u * 4294967296 + d) / Y * Y = (u * 4294967296 + d) % Y := by
    have := Int.mul_ediv_add_emod (u * 4294967296 + d) Y
    rw [Int.mul_comm] at this
    omega
  have hm1 := Int.emod_lt_of_pos (u * 4294967296 + d) hp
  have hm0 := Int.emod_nonneg (u * 4294967296 + d) (by omega : Y ≠ 0)
  have hrest : IntKind.u64.wrap (IntKind.u64.wrap (IntKind.u64.wrap (u * 4294967296) + d) - IntKind.u64.wrap ((u * 4294967296 + d) / Y * Y)) = (u * 4294967296 + d) % Y := by
    simp only [wu64]
    omega
  generalize hQ : (u * 4294967296 + d) / Y = Q at *
  have step : ∀ q r : Int, q * h + r = u → 0 ≤ r → r < 4294967296 → Q < q → q ≤ 4294967297 →
      (r + h < 4294967296 → Ev (fun k => bits_Div64.l1 k Y s h l d q1 (r + h) u (q - 1)) (q1 * 4294967296 + Q, shr .u64 ((u * 4294967296 + d) % Y) s)) →
      Ev (fun k => bits_Div64.j4 k Y s h l d q1 r u q true) (q1 * 4294967296 + Q, shr .u64 ((u * 4294967296 + d) % Y) s) := by
    intro q r he hr0 hr hlt hq hnext
    by_cases hb : r + h < 4294967296
    · refine Ev.step (fun k => ?_) (hnext hb)
      simp only [bits_Div64.j4, if_true]
      rw [wu64_id (r + h) (by omega) (by omega), if_neg (by omega), wu64_id (q - 1) (by omega) (by omega)]
    · have hle : q - 1 ≤ Q := by
        rw [← hQ]
        refine digit_le (r := r + h) hY hl hh ?_ ?_
        · rw [Int.sub_mul]; omega
        · have := mul_le_of (a := q - 1) (b := l) (A := 4294967296) (B := 4294967295) (by omega) hl (by omega) (by omega)
          omega
      have hQe : q - 1 = Q := by omega
      refine Ev.step (fun k => ?_) (Ev.now _)
      simp only [bits_Div64.j4, if_true]
      rw [wu64_id (r + h) (by omega) (by omega), if_pos (by omega), if_pos hs, wu64_id (q - 1) (by omega) (by omega), hQe, hrest, wu64_id (q1 * 4294967296) (by omega) (by omega), wu64_id (q1 * 4294967296 + Q) (by omega) (by omega)]
  induction n with
  | zero =>
    intro q r he hr0 hr hQq hq hn
    obtain rfl : Q = q := by omega
    have hnc : ¬ (4294967296 * r + d < Q * l) := by
      intro hc
      have := digit_lt hY hl hh he hc
      omega
    have hm := mul_le_of (a := Q) (b := l) (A := 4294967297) (B := 4294967295) (by omega) hl (by omega) (by omega)
    have hmm : 0 ≤ Q * l := Int.mul_nonneg hq0 hl
    refine Ev.step (f := fun k => bits_Div64.j4 k Y s h l d q1 r u Q false) (fun k => ?_) (Ev.step (fun k => ?_) (Ev.now _))
    · simp only [bits_Div64.l1]
      rw [if_neg (by omega), wu64_id (Q * l) hmm (by omega), wu64_id (4294967296 * r) (by omega) (by omega), wu64_id (4294967296 * r + d) (by omega) (by omega), decide_eq_false (by omega)]
    · simp only [bits_Div64.j4]
      rw [if_neg (by simp), if_pos hs, hrest, wu64_id (q1 * 4294967296) (by omega) (by omega), wu64_id (q1 * 4294967296 + Q) (by omega) (by omega)]
  | succ n ih =>
    intro q r he hr0 hr hQq hq hn
    have hlt : Q < q := by omega
    have hc : 4294967296 ≤ q ∨ 4294967296 * r + d < q * l := by
      by_cases h1 : 4294967296 ≤ q
      · exact .inl h1
      · right
        refine Classical.byContradiction fun h2 => ?_
        have := digit_le (q := q) (r := r) hY hl hh he (Int.not_lt.1 h2)
        omega
    have hj := step q r he hr0 hr hlt hq (fun hb => ih (q - 1) (r + h) (by rw [Int.sub_mul]; omega) (by omega) hb (by omega) (by omega) (by omega))
    have hm := mul_le_of (a := q) (b := l) (A := 4294967297) (B := 4294967295) (by omega) hl (by omega) (by omega)
    have hmm : 0 ≤ q * l := Int.mul_nonneg (by omega) hl
    refine Ev.step (fun k => ?_) hj
    simp only [bits_Div64.l1]
    by_cases h1 : 4294967296 ≤ q
    · rw [if_pos (by omega)]
    · rw [if_neg (by omega), wu64_id (q * l) hmm (by omega), wu64_id (4294967296 * r) (by omega) (by omega), wu64_id (4294967296 * r + d) (by omega) (by omega), decide_eq_true (by omega)]
end
section
variable {Y s h l u d e : Int}
theorem div_j2 (hY : Y = h * 4294967296 + l) (hl : 0 ≤ l) (hl2 : l < 4294967296) (hh : 2147483648 ≤ h) (hh2 : h < 4294967296) (hu0 : 0 ≤ u) (hu : u < Y) (hd0 : 0 ≤ d) (hd : d < 4294967296) (he0 : 0 ≤ e) (he : e < 4294967296) (hs : 0 ≤ s) :
    Ev (fun k => bits_Div64.j2 k Y s h l u d e ((u * 4294967296 + d) / Y)) ((u * 4294967296 + d) / Y * 4294967296 + ((u * 4294967296 + d) % Y * 4294967296 + e) / Y, shr .u64 (((u * 4294967296 + d) % Y * 4294967296 + e) % Y) s) := by
  have hp : 0 < Y := by omega
  have htop := digit_top hp hu hd
  have hq0 : 0 ≤ (u * 4294967296 + d) / Y := Int.ediv_nonneg (by omega) (by omega)
  have hmod : (u * 4294967296 + d) - (u * 4294967296 + d) / Y * Y = (u * 4294967296 + d) % Y := by
    have := Int.mul_ediv_add_emod (u * 4294967296 + d) Y
    rw [Int.mul_comm] at this
    omega
  have hm1 := Int.emod_lt_of_pos (u * 4294967296 + d) hp
  have hm0 := Int.emod_nonneg (u * 4294967296 + d) (by omega : Y ≠ 0)
  have hrest : IntKind.u64.wrap (IntKind.u64.wrap (IntKind.u64.wrap (u * 4294967296) + d) - IntKind.u64.wrap ((u * 4294967296 + d) / Y * Y)) = (u * 4294967296 + d) % Y := by
    simp only [wu64]
    omega
  generalize (u * 4294967296 + d) / Y = q1 at *
  generalize (u * 4294967296 + d) % Y = v at *
  have hv : v / h * h + v % h = v := by
    have := Int.mul_ediv_add_emod v h
    rw [Int.mul_comm] at this
    exact this
  have hvm1 := Int.emod_lt_of_pos v (by omega : 0 < h)
  have hvm0 := Int.emod_nonneg v (by omega : h ≠ 0)
  have hvd0 : 0 ≤ v / h := Int.ediv_nonneg hm0 (by omega)
  have hvd1 : v / h ≤ 4294967297 := by
    have : v / h < 4294967298 := Int.ediv_lt_of_lt_mul (by omega) (by omega)
    omega
  have hle : (v * 4294967296 + e) / Y ≤ v / h := by
    refine Classical.byContradiction fun hn => ?_
    have h1 := Int.ediv_mul_le (v * 4294967296 + e) (by omega : Y ≠ 0)
    have h2 : (v / h + 1) * Y ≤ (v * 4294967296 + e) / Y * Y := Int.mul_le_mul_of_nonneg_right (by omega) (by omega)
    have h3 : (v / h + 1) * Y = (v / h * h + h) * 4294967296 + (v / h + 1) * l := by rw [hY, Int.mul_add, ← Int.mul_assoc, Int.add_mul (v / h) 1 h, Int.one_mul]
    have h4 : 0 ≤ (v / h + 1) * l := Int.mul_nonneg (by omega) hl
    omega
  refine Ev.step (fun k => ?_) (div_l1 (s := s) (q1 := q1) hY hl hl2 hh hh2 hm0 hm1 he0 he hs hq0 htop ((v / h - (v * 4294967296 + e) / Y).toNat) (v / h) (v % h) hv hvm0 (by omega) hle hvd1 (by omega))
  simp only [bits_Div64.j2]
  rw [if_neg (by omega), hrest, tdiv_pos hm0, wu64_id (v / h) hvd0 (by omega), wu64_id (v / h * h) (Int.mul_nonneg hvd0 (by omega)) (by omega), show v - v / h * h = v % h from by omega, wu64_id (v % h) hvm0 (by omega)]
end
theorem bitLen_bounds (y : Nat) (h0 : y ≠ 0) (h : y < 18446744073709551616) : 1 ≤ Lib.bitLen y ∧ 2 ^ (Lib.bitLen y - 1) ≤ y ∧ y < 2 ^ Lib.bitLen y :=
  Lib.bitLenAux_bounds 64 y h h0
theorem div_join {N y p Y q1 q0 w : Int} (hp : 0 < p) (hY : Y = y * p) (hN : N * p = (q1 * 4294967296 + q0) * Y + w) (hw0 : 0 ≤ w) (hw : w < Y) :
    q1 * 4294967296 + q0 = N / y ∧ w / p = N % y := by
  generalize q1 * 4294967296 + q0 = Q at *
  have hw' : w = (N - Q * y) * p := by rw [Int.sub_mul, hN, hY, Int.mul_assoc]; omega
  have hyp : 0 < Y := by omega
  have hr0 : 0 ≤ N - Q * y := by
    refine Classical.byContradiction fun hn => ?_
    have : (N - Q * y) * p < 0 := Int.mul_neg_of_neg_of_pos (by omega) hp
    omega
  have hr1 : N - Q * y < y := by
    refine Int.lt_of_mul_lt_mul_right (a := p) ?_ (by omega)
    rw [← hw', ← hY]; exact hw
  have hy : 0 < y := by omega
  have e1 : N / y = Q := by
    rw [show N = (N - Q * y) + Q * y from by omega, Int.add_mul_ediv_right _ _ (by omega), Int.ediv_eq_zero_of_lt hr0 hr1]; omega
  refine ⟨e1.symm, ?_⟩
  rw [hw', Int.mul_ediv_cancel _ (by omega)]
  have := Int.mul_ediv_add_emod N y
  rw [e1, Int.mul_comm] at this
  omega
theorem two_pow_split (S : Nat) (h : S ≤ 64) : (2 : Int) ^ S * 2 ^ (64 - S) = 18446744073709551616 := by
  rw [← Int.pow_add, show S + (64 - S) = 64 from by omega]; rfl
theorem bits_Div64_ev (a0 a1 a2 : Int) (h0 : 0 ≤ a0) (h1 : U a1) (h2 : U a2) (h : a0 < a2) :
    Ev (fun k => bits_Div64.f k a0 a1 a2) ((a0 * 18446744073709551616 + a1) / a2, (a0 * 18446744073709551616 + a1) % a2) := by
  unfold U at h1 h2
  by_cases hz : a0 = 0
  · subst hz
    refine Ev.congr (fun k => ?_) (Ev.now _)
    unfold bits_Div64.f
    rw [if_neg (by omega), if_neg (by omega), if_pos rfl, tdiv_pos h1.1, tmod_pos h1.1, wu64_id _ (Int.ediv_nonneg h1.1 (by omega)) (by have := Int.ediv_le_self a2 h1.1; omega)]
    simp
  · obtain ⟨y, rfl⟩ := Int.eq_ofNat_of_zero_le h2.1
    obtain ⟨b1, b2, b3⟩ := bitLen_bounds y (by omega) (by omega)
    have b4 : Lib.bitLen y ≤ 64 := Lib.bitLen_le y 64 (by omega) (by have := h2.2; omega)
    generalize hL : Lib.bitLen y = L at *
    -- s = 64 - L
    obtain ⟨S, hS, hS2⟩ : ∃ S : Nat, 64 - (L : Int) = S ∧ S = 64 - L := ⟨64 - L, by omega, rfl⟩
    have hP := two_pow_split S (by omega)
    have hp0 : (0 : Int) < 2 ^ S := Int.pow_pos (by omega)
    have hp1 : (0 : Int) < 2 ^ (64 - S) := Int.pow_pos (by omega)
    have hLS : 64 - S = L := by omega
    have hb3 : ((y : Int)) < 2 ^ (64 - S) := by rw [hLS]; exact_mod_cast b3
    have hb2 : (2 : Int) ^ (64 - S) ≤ 2 * y := by
      rw [hLS, show L = (L - 1) + 1 from by omega, Int.pow_succ]
      have : ((2 ^ (L - 1) : Nat) : Int) ≤ y := by exact_mod_cast b2
      rw [Int.natCast_pow] at this
      have e2 : ((2 : Nat) : Int) = 2 := rfl
      rw [e2] at this
      omega
    have hYlt : (y : Int) * 2 ^ S < 18446744073709551616 := by
      rw [← hP, Int.mul_comm ((2 : Int) ^ S)]; exact Int.mul_lt_mul_of_pos_right hb3 hp0
    have hYge : (9223372036854775808 : Int) ≤ y * 2 ^ S := by
      have : (2 : Int) ^ (64 - S) * 2 ^ S ≤ 2 * y * 2 ^ S := Int.mul_le_mul_of_nonneg_right hb2 (by omega)
      rw [Int.mul_comm ((2 : Int) ^ (64 - S)), hP, Int.mul_assoc] at this
      omega
    have hs1 : shl .u64 (y : Int) (S : Int) = y * 2 ^ S := by
      unfold shl
      rw [show min ((S : Int)).toNat IntKind.u64.bits = S from by simp [IntKind.bits] <;> omega, wu64_id _ (by omega) hYlt]
    have hlt0 : a0 * 2 ^ S < y * 2 ^ S := Int.mul_lt_mul_of_pos_right h hp0
    have hs2 : shl .u64 a0 (S : Int) = a0 * 2 ^ S := by
      unfold shl
      rw [show min ((S : Int)).toNat IntKind.u64.bits = S from by simp [IntKind.bits] <;> omega, wu64_id _ (Int.mul_nonneg h0 (by omega)) (by omega)]
    have hs3 : shr .u64 a1 ((64 - S : Int)) = a1 / 2 ^ (64 - S) := by
      unfold shr
      rw [show min ((64 - S : Int)).toNat IntKind.u64.bits = 64 - S from by simp [IntKind.bits] <;> omega]
    have hs4 : shl .u64 a1 (S : Int) = (a1 * 2 ^ S) % 18446744073709551616 := by
      unfold shl
      rw [show min ((S : Int)).toNat IntKind.u64.bits = S from by simp [IntKind.bits] <;> omega, wu64]
    have hq : a1 / 2 ^ (64 - S) < 2 ^ S := by
      refine Int.ediv_lt_of_lt_mul hp1 ?_
      rw [hP]; exact h1.2
    have hq0 : 0 ≤ a1 / 2 ^ (64 - S) := Int.ediv_nonneg h1.1 (by omega)
    have hdiv : (a1 * 2 ^ S) / 18446744073709551616 = a1 / 2 ^ (64 - S) := by
      rw [← hP, Int.mul_comm a1, Int.mul_ediv_mul_of_pos _ _ hp0]
    have hun10 := Int.mul_ediv_add_emod (a1 * 2 ^ S) 18446744073709551616
    rw [hdiv] at hun10
    have hor : Go.bits .or .u64 (a0 * 2 ^ S) (a1 / 2 ^ (64 - S)) = a0 * 2 ^ S + a1 / 2 ^ (64 - S) := by
      have hpow : ((2 : Int) ^ S) ≤ 18446744073709551616 := by
        rw [← hP]
        have := Int.mul_le_mul_of_nonneg_left (by omega : (1 : Int) ≤ 2 ^ (64 - S)) (by omega : (0 : Int) ≤ 2 ^ S)
        omega
      exact bits_join .u64 64 (by decide) wraps_u64 S (a0 * 2 ^ S) (a1 / 2 ^ (64 - S)) (Int.mul_nonneg h0 (by omega)) (Int.mul_emod_left _ _) (by omega) hq0 hq (by omega)
    have hur : a0 * 2 ^ S + a1 / 2 ^ (64 - S) < y * 2 ^ S := by
      have : (a0 + 1) * 2 ^ S ≤ y * 2 ^ S := Int.mul_le_mul_of_nonneg_right (by omega) (by omega)
      rw [Int.add_mul, Int.one_mul] at this
      omega
    have hmul0 : 0 ≤ a0 * 2 ^ S := Int.mul_nonneg h0 (by omega)
    have hN : (a0 * 18446744073709551616 + a1) * 2 ^ S = (a0 * 2 ^ S + a1 / 2 ^ (64 - S)) * 18446744073709551616 + (a1 * 2 ^ S) % 18446744073709551616 := by
      have e1 : (a0 * 18446744073709551616 + a1) * 2 ^ S = a0 * 2 ^ S * 18446744073709551616 + a1 * 2 ^ S := by
        rw [Int.add_mul, Int.mul_right_comm]
      omega
    have hM0 := Int.emod_nonneg (a1 * 2 ^ S) (by omega : (18446744073709551616 : Int) ≠ 0)
    have hM1 := Int.emod_lt_of_pos (a1 * 2 ^ S) (by omega : (0 : Int) < 18446744073709551616)
    have hshr : ∀ w : Int, shr .u64 w (S : Int) = w / 2 ^ S := by
      intro w
      unfold shr
      rw [show min ((S : Int)).toNat IntKind.u64.bits = S from by simp [IntKind.bits] <;> omega]
    generalize hu : a0 * 2 ^ S + a1 / 2 ^ (64 - S) = u at *
    generalize hm : (a1 * 2 ^ S) % 18446744073709551616 = m at *
    generalize hp : (2 : Int) ^ S = p at *
    generalize hYY : (y : Int) * p = Y at *
    have hYdm : Y = Y / 4294967296 * 4294967296 + Y % 4294967296 := by omega
    have ev2 := div_j2 (s := (S : Int)) (Y := Y) (h := Y / 4294967296) (l := Y % 4294967296) (u := u) (d := m / 4294967296) (e := m % 4294967296) hYdm (by omega) (by omega) (by omega) (by omega) (by omega) hur (by omega) (by omega) (by omega) (by omega) (by omega)
    have hp' : 0 < Y := by omega
    have hu1 : u / (Y / 4294967296) * (Y / 4294967296) + u % (Y / 4294967296) = u := by
      have := Int.mul_ediv_add_emod u (Y / 4294967296)
      rw [Int.mul_comm] at this
      exact this
    have hvm1 := Int.emod_lt_of_pos u (by omega : 0 < Y / 4294967296)
    have hvm0 := Int.emod_nonneg u (by omega : Y / 4294967296 ≠ 0)
    have hvd0 : 0 ≤ u / (Y / 4294967296) := Int.ediv_nonneg (by omega) (by omega)
    have hvd1 : u / (Y / 4294967296) ≤ 4294967297 := by
      have : u / (Y / 4294967296) < 4294967298 := Int.ediv_lt_of_lt_mul (by omega) (by omega)
      omega
    have hle : (u * 4294967296 + m / 4294967296) / Y ≤ u / (Y / 4294967296) := by
      refine Classical.byContradiction fun hn => ?_
      have g1 := Int.ediv_mul_le (u * 4294967296 + m / 4294967296) (by omega : Y ≠ 0)
      have g2 : (u / (Y / 4294967296) + 1) * Y ≤ (u * 4294967296 + m / 4294967296) / Y * Y := Int.mul_le_mul_of_nonneg_right (by omega) (by omega)
      have g3 : (u / (Y / 4294967296) + 1) * Y = (u / (Y / 4294967296) * (Y / 4294967296) + Y / 4294967296) * 4294967296 + (u / (Y / 4294967296) + 1) * (Y % 4294967296) := by
        have : (u / (Y / 4294967296) + 1) * Y = (u / (Y / 4294967296) + 1) * (Y / 4294967296 * 4294967296 + Y % 4294967296) := by rw [← hYdm]
        rw [this, Int.mul_add, ← Int.mul_assoc, Int.add_mul (u / (Y / 4294967296)) 1 (Y / 4294967296), Int.one_mul]
      have g4 : 0 ≤ (u / (Y / 4294967296) + 1) * (Y % 4294967296) := Int.mul_nonneg (by omega) (by omega)
      omega
    have ev0 := div_l0 (s := (S : Int)) hYdm (by omega) (by omega) (by omega) (by omega) (by omega) hur (by omega) (by omega) ev2 ((u / (Y / 4294967296) - (u * 4294967296 + m / 4294967296) / Y).toNat) (u / (Y / 4294967296)) (u % (Y / 4294967296)) hu1 hvm0 (by omega) hle hvd1 (by omega)
    have hdm1 := Int.mul_ediv_add_emod (u * 4294967296 + m / 4294967296) Y
    have hdm2 := Int.mul_ediv_add_emod ((u * 4294967296 + m / 4294967296) % Y * 4294967296 + m % 4294967296) Y
    have hw1 := Int.emod_lt_of_pos ((u * 4294967296 + m / 4294967296) % Y * 4294967296 + m % 4294967296) hp'
    have hw0 := Int.emod_nonneg ((u * 4294967296 + m / 4294967296) % Y * 4294967296 + m % 4294967296) (by omega : Y ≠ 0)
    generalize (u * 4294967296 + m / 4294967296) / Y = q1 at *
    generalize (u * 4294967296 + m / 4294967296) % Y = v at *
    generalize (v * 4294967296 + m % 4294967296) / Y = q2 at *
    generalize (v * 4294967296 + m % 4294967296) % Y = w at *
    obtain ⟨j1, j2⟩ := div_join (N := a0 * 18446744073709551616 + a1) (y := (y : Int)) (p := p) (Y := Y) (q1 := q1) (q0 := q2) (w := w) hp0 hYY.symm (by
      rw [hN]
      have : (q1 * 4294967296 + q2) * Y = Y * q1 * 4294967296 + Y * q2 := by rw [Int.add_mul, Int.mul_right_comm, Int.mul_comm q1, Int.mul_comm q2]
      omega) hw0 hw1
    rw [j1, hshr, j2] at ev0
    refine Ev.congr (fun k => ?_) ev0
    unfold bits_Div64.f bits_LeadingZeros64.f
    rw [if_neg (by omega), if_neg (by omega), if_neg hz, if_pos (by omega)]
    simp only [Option.bind_some, Int.toNat_natCast, hL, hS]
    rw [wu64_id (S : Int) (by omega) (by omega), wu64_id (64 - (S : Int)) (by omega) (by omega), if_pos (by omega), if_pos (by omega), hs1, hs2, hs3, hs4, hor, if_neg (by omega), tdiv_pos (by omega),
      and32 Y (by unfold U; omega), and32 m (by unfold U; omega), wu64_id (u / (Y / 4294967296)) hvd0 (by omega), wu64_id (u / (Y / 4294967296) * (Y / 4294967296)) (Int.mul_nonneg hvd0 (by omega)) (by omega), show u - u / (Y / 4294967296) * (Y / 4294967296) = u % (Y / 4294967296) from by omega, wu64_id (u % (Y / 4294967296)) hvm0 (by omega)]
theorem bits_Rem64_ev (a0 a1 a2 : Int) (h0 : U a0) (h1 : U a1) (h2 : U a2) (h : a2 ≠ 0) :
    Ev (fun k => bits_Rem64.f k a0 a1 a2) ((a0 * 18446744073709551616 + a1) % a2) := by
  have hp : 0 < a2 := by unfold U at h2; omega
  have hm0 := Int.emod_nonneg a0 h
  have hm1 := Int.emod_lt_of_pos a0 hp
  have e := bits_Div64_ev (a0 % a2) a1 a2 hm0 h1 h2 hm1
  have hmod : (a0 % a2 * 18446744073709551616 + a1) % a2 = (a0 * 18446744073709551616 + a1) % a2 := by
    rw [Int.add_emod, Int.mul_emod, Int.emod_emod, ← Int.mul_emod, ← Int.add_emod]
  have e2 : Ev (fun k => (bits_Div64.f k (a0 % a2) a1 a2).bind fun b => (some b.2)) ((a0 % a2 * 18446744073709551616 + a1) % a2) := Ev.bind e (Ev.now _)
  rw [hmod] at e2
  refine Ev.congr (fun k => ?_) e2
  unfold bits_Rem64.f
  rw [if_neg h, tmod_pos h0.1]
end Go.Proofs.Ythnpjjpdlihepaa.XS
end
section
namespace Go.Proofs.Ythnpjjpdlihepaa.Mont
open Go Go.RowKit Go.Proofs.YthnpjjpdlihepaaW.PrintWords Go.Proofs.YthnpjjpdlihepaaW.PrintLast Go.Proofs.YthnpjjpdlihepaaW.PrintMore Go.Proofs.Ythnpjjpdlihepaa.Given Go.Proofs.Ythnpjjpdlihepaa.M Go.Proofs.Ythnpjjpdlihepaa.XS
def CtxBlk (W : World) (g : Nat) (m t : Int) : Prop := W.heap[g]? = some (.cells #[.int .u64 m, .int .u64 t, .int .u64 (mOne m), .int .u64 (mSq m)] 92 (0, 0))
def IsCtx (W : World) (v : Value) (m : Int) : Prop := ∃ (g : Nat) (t : Int), v = .pointer (some ⟨g, 0, none⟩) ∧ CtxBlk W g m t ∧ GoodM m ∧ U t ∧ (18446744073709551616 : Int) ∣ m * t + 1
def CtxP (W : World) (v : Value) : Option Int → Prop
  | none => v = .pointer none
  | some m => IsCtx W v m
theorem IsCtx.below {W W1 : World} {v : Value} {m : Int} (h : IsCtx W v m) (hb : Below W.heap.size W W1) : IsCtx W1 v m := by
  obtain ⟨g, t, e, hc, r⟩ := h
  exact ⟨g, t, e, blk_below hc hb, r⟩
theorem CtxP.below {W W1 : World} {v : Value} {o : Option Int} (h : CtxP W v o) (hb : Below W.heap.size W W1) : CtxP W1 v o := by
  cases o with
  | none => exact h
  | some m => exact IsCtx.below h hb
theorem IsCtx.drewN {W : World} {v : Value} {m : Int} (h : IsCtx W v m) (n : Nat) : IsCtx (W.drewN n) v m := h
section
variable {W : World} {g : Nat} {m t : Int} (h : CtxBlk W g m t)
include h
theorem CtxBlk.c0 : W.cell? ⟨g, 0, none⟩ = some (.int .u64 m) := (blk_cell h 0).trans rfl
theorem CtxBlk.c1 : W.cell? ⟨g, 1, none⟩ = some (.int .u64 t) := (blk_cell h 1).trans rfl
theorem CtxBlk.c2 : W.cell? ⟨g, 2, none⟩ = some (.int .u64 (mOne m)) := (blk_cell h 2).trans rfl
theorem CtxBlk.c3 : W.cell? ⟨g, 3, none⟩ = some (.int .u64 (mSq m)) := (blk_cell h 3).trans rfl
end
set_option maxHeartbeats 1000000 in
theorem cut_calls {g : Nat} {m t x r : Int} {w : World} (hc : CtxBlk w g m t) (hm : GoodM m) (hx : U x) (hr : Aside0 (r = x % m)) :
    Calls Try.prog 63 #[.pointer (some ⟨g, 0, none⟩), .int .u64 x] w fun e w' => e = .returned (.int .u64 r) ∧ Drawn0 w w' := by
  have h0 := hc.c0
  have f0 := blk_frozen hc 0
  clear hc
  by_cases h1 : m ≤ x
  · have hb : decide (m ≤ x) = true := decide_eq_true h1
    have hz : (m == 0) = false := beq_eq_false_iff_ne.mpr (good_ne hm)
    have hz1 : ¬ m = 0 := good_ne hm
    have hx0 : 0 ≤ x := hx.1
    clear hm hx h1
    go_enter Try.func63, Try.ntmps63
    go_wp2
    go_ret
    exact ⟨by rw [hr.out] <;> first | rfl | (simp; done), Drawn0.refl _⟩
  · have hb : decide (m ≤ x) = false := decide_eq_false h1
    have he : x % m = x := Int.emod_eq_of_lt hx.1 (by omega)
    have hr' := Aside0.mk (hr.out.trans he)
    clear hm hx h1 he
    go_enter Try.func63, Try.ntmps63
    go_wp2
    go_ret
    exact ⟨by rw [hr'.out] <;> first | rfl | (simp; done), Drawn0.refl _⟩
set_option maxHeartbeats 2000000 in
theorem reduce_calls {g : Nat} {m t hi lo r : Int} {w : World} (hc : CtxBlk w g m t) (hm : GoodM m) (hd : (18446744073709551616 : Int) ∣ m * t + 1) (h0 : 0 ≤ hi) (h1 : hi < m) (hl : U lo) (hr : Aside0 (r = mOut m (hi * 18446744073709551616 + lo))) :
    Calls Try.prog 62 #[.pointer (some ⟨g, 0, none⟩), .int .u64 hi, .int .u64 lo] w fun e w' => e = .returned (.int .u64 r) ∧ Drawn0 w w' := by
  obtain ⟨q, hq⟩ : ∃ q, q = lo * t % 18446744073709551616 := ⟨_, rfl⟩
  obtain ⟨P, hP⟩ : ∃ P, P = q * m := ⟨_, rfl⟩
  obtain ⟨h, hh⟩ : ∃ h, h = P / 18446744073709551616 := ⟨_, rfl⟩
  obtain ⟨l, hll⟩ : ∃ l, l = P % 18446744073709551616 := ⟨_, rfl⟩
  obtain ⟨c, hcc⟩ : ∃ c, c = (lo + l) / 18446744073709551616 := ⟨_, rfl⟩
  obtain ⟨T, hT⟩ : ∃ T, T = hi + h + c := ⟨_, rfl⟩
  obtain ⟨r0, r1, r2, r3, r4, r5, r6, r7⟩ := redc hm hd h0 h1 hl.1 hl.2 hq hP hh hll hcc hT
  have hend := redc_end r5 r6 r7
  have hmU := good_U hm
  have hq0 : U q := by rw [hq]; unfold U; omega
  have hw : IntKind.u64.wrap (lo * t) = q := by rw [wu64, hq]
  have m1 : bits_Mul64.f (IntKind.u64.wrap (lo * t)) m = some (h, l) := by
    unfold bits_Mul64.f
    rw [hw, if_pos ⟨hq0.1, hq0.2, hmU.1, hmU.2⟩, hh, hll, hP]
  obtain ⟨s1, a1⟩ : ∃ s1, bits_Add64.f lo l 0 = some (s1, c) := by
    refine ⟨(lo + l + 0) % 18446744073709551616, ?_⟩
    unfold bits_Add64.f
    rw [if_pos ⟨hl.1, r1, by omega, by omega⟩, hcc, Int.add_zero]
  obtain ⟨c2, a2⟩ : ∃ c2, bits_Add64.f hi h c = some (T, c2) := by
    refine ⟨(hi + h + c) / 18446744073709551616, ?_⟩
    unfold bits_Add64.f
    rw [if_pos ⟨h0, r0, r3, r4⟩, ← hT, Int.emod_eq_of_lt r5 (by unfold GoodM at hm; omega)]
  have x1 := fun W => bits_Add64.run lo l 0 s1 c W a1
  have x2 := fun W => bits_Add64.run hi h c T c2 W a2
  have M1 := Aside0.mk m1
  have k0 := hc.c0
  have k1 := hc.c1
  have f0 := blk_frozen hc 0
  have f1 := blk_frozen hc 1
  by_cases hTm : m ≤ T
  · have hb : decide (m ≤ T) = true := decide_eq_true hTm
    have e1 : r = IntKind.u64.wrap (T - m) := by rw [hr.out, ← hend, if_pos hTm, wu64_id _ (by omega) (by unfold GoodM at hm; omega)]
    have E1 := Aside0.mk e1
    clear e1 hc hm hd h0 h1 hl hr hq hP hh hll hcc hT r0 r1 r2 r3 r4 r5 r6 r7 hend hmU hq0 hw m1 a1 a2 hTm
    go_enter Try.func62, Try.ntmps62
    go_wp2
    repeat (go_quiet (first | (go_at_call 64; (with_reducible refine (bits_Mul64.calls _ _ h l _ M1.out).mono ?_); rintro e w' ⟨rfl, ⟨nd, rfl⟩⟩; (try first | exact qA | exact qB))); try go_wp2)
    go_ret
    exact ⟨by rw [E1.out] <;> first | rfl | (simp; done), by repeat (first | exact Drawn0.refl _ | apply Drawn0.step)⟩
  · have hb : decide (m ≤ T) = false := decide_eq_false hTm
    have e1 : r = T := by rw [hr.out, ← hend, if_neg hTm]
    have E1 := Aside0.mk e1
    clear e1 hc hm hd h0 h1 hl hr hq hP hh hll hcc hT r0 r1 r2 r3 r4 r5 r6 r7 hend hmU hq0 hw m1 a1 a2 hTm
    go_enter Try.func62, Try.ntmps62
    go_wp2
    repeat (go_quiet (first | (go_at_call 64; (with_reducible refine (bits_Mul64.calls _ _ h l _ M1.out).mono ?_); rintro e w' ⟨rfl, ⟨nd, rfl⟩⟩; (try first | exact qA | exact qB))); try go_wp2)
    go_ret
    exact ⟨by rw [E1.out] <;> first | rfl | (simp; done), by repeat (first | exact Drawn0.refl _ | apply Drawn0.step)⟩
theorem mul64_calls {x y h l : Int} {w : World} (hr : Aside0 (bits_Mul64.f x y = some (h, l))) :
    Calls Try.prog 64 #[.int .u64 x, .int .u64 y] w fun e w' => e = .returned (.tuple #[.int .u64 h, .int .u64 l]) ∧ Drawn0 w w' :=
  bits_Mul64.calls x y h l w hr.out
set_option maxHeartbeats 2000000 in
theorem Mul_some {v : Value} {m x y r : Int} {w : World} (hc : IsCtx w v m) (hx : U x) (hy : U y) (hr : Aside0 (r = mMul m x y)) :
    Calls Try.prog 45 #[v, .int .u64 x, .int .u64 y] w fun e w' => e = .returned (.int .u64 r) ∧ Drawn0 w w' := by
  obtain ⟨g, t, rfl, hb, hm, ht, hd⟩ := hc
  obtain ⟨x', hx'⟩ : ∃ x', x' = x % m := ⟨_, rfl⟩
  obtain ⟨y', hy'⟩ : ∃ y', y' = y % m := ⟨_, rfl⟩
  have ux := U_mod hm x
  have uy := U_mod hm y
  have lx := lt_mod hm x
  have ly := lt_mod hm y
  rw [← hx'] at ux lx
  rw [← hy'] at uy ly
  have p0 : 0 ≤ x' * y' := Int.mul_nonneg ux.1 uy.1
  have p1 : x' * y' ≤ (m - 1) * (m - 1) := Int.mul_le_mul (by omega) (by omega) uy.1 (by unfold GoodM at hm; omega)
  have p2 : (m - 1) * (m - 1) < m * 18446744073709551616 := by
    have : (m - 1) * (m - 1) ≤ (m - 1) * 18446744073709551616 := Int.mul_le_mul_of_nonneg_left (by unfold GoodM at hm; omega) (by unfold GoodM at hm; omega)
    unfold GoodM at hm; omega
  obtain ⟨h, hh⟩ : ∃ h, h = x' * y' / 18446744073709551616 := ⟨_, rfl⟩
  obtain ⟨l, hl⟩ : ∃ l, l = x' * y' % 18446744073709551616 := ⟨_, rfl⟩
  have M1 : Aside0 (bits_Mul64.f x' y' = some (h, l)) := ⟨by unfold bits_Mul64.f; rw [if_pos ⟨ux.1, ux.2, uy.1, uy.2⟩, hh, hl]⟩
  have R1 : Aside0 (r = mOut m (h * 18446744073709551616 + l)) := ⟨by
    rw [hr.out, ← mMul_rest, ← hx', ← hy', hh, hl]; congr 1; omega⟩
  have X1 := Aside0.mk hx'
  have Y1 := Aside0.mk hy'
  have h0 : 0 ≤ h := by rw [hh]; omega
  have h1 : h < m := by rw [hh]; omega
  have lU : U l := by rw [hl]; unfold U; omega
  have HB := Aside0.mk hb
  have HN : Aside0 (∀ n, CtxBlk (w.drewN n) g m t) := ⟨fun _ => hb⟩
  have HM := Aside0.mk hm
  have HD := Aside0.mk hd
  have HX := Aside0.mk hx
  have HY := Aside0.mk hy
  have H0 := Aside0.mk h0
  have H1 := Aside0.mk h1
  have HL := Aside0.mk lU
  clear hx' hy' ux uy lx ly p0 p1 p2 hh hl h0 h1 lU hb hm ht hd hx hy hr
  go_enter Try.func45, Try.ntmps45
  go_wp2_with (first
    | (go_at_call 63; (with_reducible refine (cut_calls HB.out HM.out HX.out X1).mono ?_); rintro e w' ⟨rfl, ⟨nd, rfl⟩⟩; (try first | exact qA | exact qB))
    | (go_at_call 63; (with_reducible refine (cut_calls (HN.out _) HM.out HX.out X1).mono ?_); rintro e w' ⟨rfl, ⟨nd, rfl⟩⟩; (try first | exact qA | exact qB))
    | (go_at_call 63; (with_reducible refine (cut_calls HB.out HM.out HY.out Y1).mono ?_); rintro e w' ⟨rfl, ⟨nd, rfl⟩⟩; (try first | exact qA | exact qB))
    | (go_at_call 63; (with_reducible refine (cut_calls (HN.out _) HM.out HY.out Y1).mono ?_); rintro e w' ⟨rfl, ⟨nd, rfl⟩⟩; (try first | exact qA | exact qB))
    | (go_at_call 64; (with_reducible refine (mul64_calls M1).mono ?_); rintro e w' ⟨rfl, ⟨nd, rfl⟩⟩; (try first | exact qA | exact qB))
    | (go_at_call 62; (with_reducible refine (reduce_calls HB.out HM.out HD.out H0.out H1.out HL.out R1).mono ?_); rintro e w' ⟨rfl, ⟨nd, rfl⟩⟩; (try first | exact qA | exact qB))
    | (go_at_call 62; (with_reducible refine (reduce_calls (HN.out _) HM.out HD.out H0.out H1.out HL.out R1).mono ?_); rintro e w' ⟨rfl, ⟨nd, rfl⟩⟩; (try first | exact qA | exact qB))
    )
  go_ret
  exact ⟨by first | rfl | (simp; done), by repeat (first | exact Drawn0.refl _ | apply Drawn0.step)⟩
set_option maxHeartbeats 2000000 in
theorem Out_some {v : Value} {m x r : Int} {w : World} (hc : IsCtx w v m) (hx : U x) (hr : Aside0 (r = mOut m x)) :
    Calls Try.prog 41 #[v, .int .u64 x] w fun e w' => e = .returned (.int .u64 r) ∧ Drawn0 w w' := by
  obtain ⟨g, t, rfl, hb, hm, ht, hd⟩ := hc
  obtain ⟨x', hx'⟩ : ∃ x', x' = x % m := ⟨_, rfl⟩
  have ux := U_mod hm x
  rw [← hx'] at ux
  have R1 : Aside0 (r = mOut m (0 * 18446744073709551616 + x')) := ⟨by rw [hr.out, hx', Int.zero_mul, Int.zero_add, mOut_rest]⟩
  have X1 := Aside0.mk hx'
  have h1 := good_pos hm
  have HB := Aside0.mk hb
  have HN : Aside0 (∀ n, CtxBlk (w.drewN n) g m t) := ⟨fun _ => hb⟩
  have HM := Aside0.mk hm
  have HD := Aside0.mk hd
  have HX := Aside0.mk hx
  have H1 := Aside0.mk h1
  have HL := Aside0.mk ux
  clear hx' ux h1 hb hm ht hd hx hr
  go_enter Try.func41, Try.ntmps41
  go_wp2_with (first
    | (go_at_call 63; (with_reducible refine (cut_calls HB.out HM.out HX.out X1).mono ?_); rintro e w' ⟨rfl, ⟨nd, rfl⟩⟩; (try first | exact qA | exact qB))
    | (go_at_call 63; (with_reducible refine (cut_calls (HN.out _) HM.out HX.out X1).mono ?_); rintro e w' ⟨rfl, ⟨nd, rfl⟩⟩; (try first | exact qA | exact qB))
    | (go_at_call 62; (with_reducible refine (reduce_calls HB.out HM.out HD.out (Int.le_refl 0) H1.out HL.out R1).mono ?_); rintro e w' ⟨rfl, ⟨nd, rfl⟩⟩; (try first | exact qA | exact qB))
    | (go_at_call 62; (with_reducible refine (reduce_calls (HN.out _) HM.out HD.out (Int.le_refl 0) H1.out HL.out R1).mono ?_); rintro e w' ⟨rfl, ⟨nd, rfl⟩⟩; (try first | exact qA | exact qB))
    )
  go_ret
  exact ⟨by first | rfl | (simp; done), by repeat (first | exact Drawn0.refl _ | apply Drawn0.step)⟩
set_option maxHeartbeats 2000000 in
theorem In_some {v : Value} {m x r : Int} {w : World} (hc : IsCtx w v m) (hx : U x) (hr : Aside0 (r = mIn m x)) :
    Calls Try.prog 43 #[v, .int .u64 x] w fun e w' => e = .returned (.int .u64 r) ∧ Drawn0 w w' := by
  have hc' := hc
  obtain ⟨g, t, rfl, hb, hm, ht, hd⟩ := hc'
  obtain ⟨s, hs⟩ : ∃ s, s = mSq m := ⟨_, rfl⟩
  have us : U s := by rw [hs]; exact U_mod hm _
  have R1 : Aside0 (r = mMul m x s) := ⟨by rw [hr.out, hs, mMul_sq hm]⟩
  have k3 := hb.c3
  have f3 := blk_frozen hb 3
  rw [← hs] at k3
  have HB := Aside0.mk hc
  have HN : Aside0 (∀ n, IsCtx (w.drewN n) (.pointer (some ⟨g, 0, none⟩)) m) := ⟨fun _ => hc⟩
  have HX := Aside0.mk hx
  have HL := Aside0.mk us
  clear us hs hb hm ht hd hx hr hc
  go_enter Try.func43, Try.ntmps43
  go_wp2_with (first
    | (go_at_call 45; (with_reducible refine (Mul_some HB.out HX.out HL.out R1).mono ?_); rintro e w' ⟨rfl, ⟨nd, rfl⟩⟩; (try first | exact qA | exact qB))
    | (go_at_call 45; (with_reducible refine (Mul_some (HN.out _) HX.out HL.out R1).mono ?_); rintro e w' ⟨rfl, ⟨nd, rfl⟩⟩; (try first | exact qA | exact qB))
    )
  go_ret
  exact ⟨by first | rfl | (simp; done), by repeat (first | exact Drawn0.refl _ | apply Drawn0.step)⟩
theorem One_some {v : Value} {m r : Int} {w : World} (hc : IsCtx w v m) (hr : Aside0 (r = mOne m)) :
    Calls Try.prog 97 #[v] w fun e w' => e = .returned (.int .u64 r) ∧ Drawn0 w w' := by
  obtain ⟨g, t, rfl, hb, hm, ht, hd⟩ := hc
  have k2 := hb.c2
  have f2 := blk_frozen hb 2
  rw [← hr.out] at k2
  clear hb hm ht hd hr
  go_enter Try.func97, Try.ntmps97
  go_wp2
  go_ret
  exact ⟨by first | rfl | (simp; done), by repeat (first | exact Drawn0.refl _ | apply Drawn0.step)⟩
set_option maxHeartbeats 2000000 in
theorem Add_some {v : Value} {m x y r : Int} {w : World} (hc : IsCtx w v m) (hx : U x) (hy : U y) (hr : Aside0 (r = mAdd m x y)) :
    Calls Try.prog 44 #[v, .int .u64 x, .int .u64 y] w fun e w' => e = .returned (.int .u64 r) ∧ Drawn0 w w' := by
  obtain ⟨g, t, rfl, hb, hm, ht, hd⟩ := hc
  obtain ⟨x', hx'⟩ : ∃ x', x' = x % m := ⟨_, rfl⟩
  obtain ⟨y', hy'⟩ : ∃ y', y' = y % m := ⟨_, rfl⟩
  have k0 := hb.c0
  have f0 := blk_frozen hb 0
  have X1 := Aside0.mk hx'
  have Y1 := Aside0.mk hy'
  have HB := Aside0.mk hb
  have HN : Aside0 (∀ n, CtxBlk (w.drewN n) g m t) := ⟨fun _ => hb⟩
  have HM := Aside0.mk hm
  have HX := Aside0.mk hx
  have HY := Aside0.mk hy
  have x0 := ge_mod hm x
  have x1 := lt_mod hm x
  have y0 := ge_mod hm y
  have y1 := lt_mod hm y
  have hmb : m < 9223372036854775808 := hm.2.2
  have hs : r = (x' + y') % m := by rw [hr.out, hx', hy', Int.emod_add_emod, Int.add_emod_emod]; rfl
  rw [← hx'] at x0 x1
  rw [← hy'] at y0 y1
  have hend := redc_end (T := x' + y') (m := m) (by omega) (by omega) hs.symm
  obtain ⟨s, hs'⟩ : ∃ s, s = x' + y' := ⟨_, rfl⟩
  have hw : IntKind.u64.wrap (x' + y') = s := by rw [wu64_id _ (by omega) (by omega), hs']
  by_cases hz : m ≤ s
  · have b1 : decide (m ≤ s) = true := decide_eq_true hz
    have e1 : r = IntKind.u64.wrap (s - m) := by rw [← hend, if_pos (by omega), wu64_id _ (by omega) (by omega), hs']
    have E1 := Aside0.mk e1
    clear e1 hz hs hs' hend hx' hy' x0 x1 y0 y1 hmb hb hm ht hd hx hy hr
    go_enter Try.func44, Try.ntmps44
    go_wp2_with (first
      | (go_at_call 63; (with_reducible refine (cut_calls HB.out HM.out HX.out X1).mono ?_); rintro e w' ⟨rfl, ⟨nd, rfl⟩⟩; (try first | exact qA | exact qB))
      | (go_at_call 63; (with_reducible refine (cut_calls (HN.out _) HM.out HX.out X1).mono ?_); rintro e w' ⟨rfl, ⟨nd, rfl⟩⟩; (try first | exact qA | exact qB))
      | (go_at_call 63; (with_reducible refine (cut_calls HB.out HM.out HY.out Y1).mono ?_); rintro e w' ⟨rfl, ⟨nd, rfl⟩⟩; (try first | exact qA | exact qB))
      | (go_at_call 63; (with_reducible refine (cut_calls (HN.out _) HM.out HY.out Y1).mono ?_); rintro e w' ⟨rfl, ⟨nd, rfl⟩⟩; (try first | exact qA | exact qB))
      )
    go_ret
    exact ⟨by rw [E1.out] <;> first | rfl | (simp; done), by repeat (first | exact Drawn0.refl _ | apply Drawn0.step)⟩
  · have b1 : decide (m ≤ s) = false := decide_eq_false hz
    have e1 : r = s := by rw [← hend, if_neg (by omega), hs']
    have E1 := Aside0.mk e1
    clear e1 hz hs hs' hend hx' hy' x0 x1 y0 y1 hmb hb hm ht hd hx hy hr
    go_enter Try.func44, Try.ntmps44
    go_wp2_with (first
      | (go_at_call 63; (with_reducible refine (cut_calls HB.out HM.out HX.out X1).mono ?_); rintro e w' ⟨rfl, ⟨nd, rfl⟩⟩; (try first | exact qA | exact qB))
      | (go_at_call 63; (with_reducible refine (cut_calls (HN.out _) HM.out HX.out X1).mono ?_); rintro e w' ⟨rfl, ⟨nd, rfl⟩⟩; (try first | exact qA | exact qB))
      | (go_at_call 63; (with_reducible refine (cut_calls HB.out HM.out HY.out Y1).mono ?_); rintro e w' ⟨rfl, ⟨nd, rfl⟩⟩; (try first | exact qA | exact qB))
      | (go_at_call 63; (with_reducible refine (cut_calls (HN.out _) HM.out HY.out Y1).mono ?_); rintro e w' ⟨rfl, ⟨nd, rfl⟩⟩; (try first | exact qA | exact qB))
      )
    go_ret
    exact ⟨by rw [E1.out] <;> first | rfl | (simp; done), by repeat (first | exact Drawn0.refl _ | apply Drawn0.step)⟩
end Go.Proofs.Ythnpjjpdlihepaa.Mont
end
section
namespace Go.Proofs.Ythnpjjpdlihepaa.F06
open Go Go.RowKit Go.Proofs.YthnpjjpdlihepaaW.PrintWords Go.Proofs.YthnpjjpdlihepaaW.PrintLast Go.Proofs.YthnpjjpdlihepaaW.PrintMore Go.Proofs.Ythnpjjpdlihepaa.Given Go.Proofs.Ythnpjjpdlihepaa.M Go.Proofs.Ythnpjjpdlihepaa.Mont Go.Proofs.Ythnpjjpdlihepaa.XS Go.Proofs.Ythnpjjpdlihepaa.XT
def toPtr : Value → Value
  | .slice A n _ => if n = 0 then .pointer none else .pointer (some (A.getD ⟨0, 0, none⟩))
  | v => v
theorem pf_none (A : Option Addr) (c : Nat) {n : Nat} (h : n = 0) : toPtr (.slice A n c) = .pointer none := by simp [toPtr, h]
theorem toPtr_at (a : Addr) (n c : Nat) : toPtr (.slice (some a) (n + 1) c) = .pointer (some a) := by simp [toPtr]
structure Fld where
  p : Int
  g : Int
  l : List S65
def zFld : Fld := ⟨0, 0, []⟩
def kFld : Kd Fld where
  sz := 4
  E := [92, 65]
  K := fun w x cs => ∃ cv A c, cs = [cv, .int .u64 x.p, .int .u64 x.g, .slice A x.l.length c] ∧ IsCtx w cv x.p ∧ U x.g ∧ x.l.length ≤ c ∧ Kd.C k65 w A x.l.length x.l
  M := fun w base ok x cs => ∃ (gc : Nat) (t : Int) (v : Value), cs = [.pointer (some ⟨gc, 0, none⟩), .int .u64 x.p, .int .u64 x.g, v] ∧ ok gc ∧ base ≤ gc ∧ CtxBlk w gc x.p t ∧ GoodM x.p ∧ U t ∧ (18446744073709551616 : Int) ∣ x.p * t + 1 ∧ U x.g ∧ Kd.R k65 65 w base ok v x.l
  K_len := by
    rintro w x cs ⟨cv, A, c, rfl, _⟩
    rfl
  K_one := by
    rintro w x cs ⟨cv, A, c, rfl, ⟨g, t, rfl, _⟩, _⟩ u hu
    simp only [List.mem_cons, List.not_mem_nil, or_false] at hu
    rcases hu with rfl | rfl | rfl | rfl <;> rfl
  K_below := by
    rintro w w1 x cs hb ⟨cv, A, c, rfl, hc, hg, hl, hr⟩
    exact ⟨cv, A, c, rfl, hc.below hb, hg, hl, Kd.C_below hr hb⟩
  K_of_M := by
    rintro w base ok x cs ⟨gc, t, v, rfl, _, _, hc, hm, ht, hd, hg, hr⟩
    obtain ⟨A, c, rfl, hl, hr⟩ := Kd.R_reads hr
    exact ⟨_, A, c, rfl, ⟨gc, t, rfl, hc, hm, ht, hd⟩, hg, hl, hr⟩
  M_mono := by
    rintro w base ok ok' x cs hok ⟨gc, t, v, rfl, h1, h2, hc, hm, ht, hd, hg, hr⟩
    exact ⟨gc, t, v, rfl, hok _ h1, h2, hc, hm, ht, hd, hg, Kd.R_mono hr hok⟩
  M_bound := by
    rintro w base ok x cs ⟨gc, t, v, rfl, h1, h2, hc, hm, ht, hd, hg, hr⟩
    refine ⟨gc, t, v, rfl, ⟨h1, h2, (Array.getElem?_eq_some_iff.1 hc).1, _, List.mem_cons_self, _, hc⟩, h2, hc, hm, ht, hd, hg, Kd.R_mono (Kd.R_bound hr) (fun k hk => ⟨hk.1, hk.2.1, hk.2.2.1, ?_⟩)⟩
    obtain ⟨q, hq, r⟩ := hk.2.2.2
    refine ⟨q, ?_, r⟩
    have e : (k65).E = [] := rfl
    rw [e, List.mem_singleton] at hq
    subst hq
    simp
  M_move := by
    rintro w w1 base ok x cs hm0 ⟨gc, t, v, rfl, h1, h2, hc, hm, ht, hd, hg, hr⟩
    exact ⟨gc, t, v, rfl, h1, h2, (hm0 gc h1).trans hc, hm, ht, hd, hg, Kd.R_move hr hm0⟩
  M_lower := by
    rintro w base base' ok x cs hb ⟨gc, t, v, rfl, h1, h2, hc, hm, ht, hd, hg, hr⟩
    exact ⟨gc, t, v, rfl, h1, Nat.le_trans hb h2, hc, hm, ht, hd, hg, Kd.R_lower hr hb⟩
theorem pf_none_own {e : Nat} {w : World} {base : Nat} {ok : Nat → Prop} {v : Value} {l : List Fld} (h : Kd.R kFld e w base ok v l) (hl : l.length = 0) : toPtr v = .pointer none := by
  obtain ⟨A, c, rfl⟩ := Kd.R_slice h
  exact pf_none _ _ hl
theorem fld_open {w : World} {A : Option Addr} {c : Nat} {F : Fld} {l : List Fld} (h : Kd.C kFld w A (F :: l).length (F :: l)) :
    ∃ (ad : Addr) (cv : Value) (A3 : Option Addr) (c3 : Nat), toPtr (.slice A (F :: l).length c) = .pointer (some ad) ∧ w.cell? ad = some cv ∧ w.cell? (ad.add 1) = some (.int .u64 F.p) ∧ w.cell? (ad.add 2) = some (.int .u64 F.g) ∧ w.cell? (ad.add 3) = some (.slice A3 F.l.length c3) ∧ IsCtx w cv F.p ∧ U F.g ∧ F.l.length ≤ c3 ∧ Kd.C k65 w A3 F.l.length F.l := by
  obtain ⟨ad, cs, rfl, _, hK, hc0⟩ := Kd.C_get h zFld 0 (by omega) (by simp)
  obtain ⟨cv, A3, c3, rfl, hx, hg, hl, hr⟩ := (hK : kFld.K w F cs)
  have hc : ∀ j u, [cv, .int .u64 F.p, .int .u64 F.g, .slice A3 F.l.length c3][j]? = some u → w.cell? (ad.add j) = some u := fun j u hj => by
    have := hc0 j u hj
    simpa using this
  refine ⟨ad, cv, A3, c3, by rw [List.length_cons]; exact toPtr_at _ _ _, ?_, hc 1 _ rfl, hc 2 _ rfl, hc 3 _ rfl, hx, hg, hl, hr⟩
  have := hc 0 _ rfl
  rwa [show ad.add 0 = ad by unfold Addr.add; split <;> simp_all] at this
end Go.Proofs.Ythnpjjpdlihepaa.F06
end
section
namespace Go.Proofs.Ythnpjjpdlihepaa.Mont
open Go Go.RowKit Go.Proofs.YthnpjjpdlihepaaW.PrintWords Go.Proofs.YthnpjjpdlihepaaW.PrintLast Go.Proofs.YthnpjjpdlihepaaW.PrintMore Go.Proofs.Ythnpjjpdlihepaa.Given Go.Proofs.Ythnpjjpdlihepaa.M Go.Proofs.Ythnpjjpdlihepaa.XS
def powRest (m o x : Int) (e : Nat) : Int := o * (x * rinv m) ^ e % m
theorem powRest_zero {m o x : Int} (h : o % m = o) : powRest m o x 0 = o := by unfold powRest; rw [Int.pow_zero, Int.mul_one, h]
theorem powRest_start (m x e : Int) : powRest m (mOne m) x e.toNat = mPow m x e := by
  unfold powRest mOne mPow; rw [emod_mul_l, Int.mul_comm]
theorem sq_rinv (m x : Int) : mMul m x x * rinv m % m = (x * rinv m) * (x * rinv m) % m := by
  unfold mMul
  rw [emod_mul_l]
  congr 1
  rw [Int.mul_assoc (x * x), Int.mul_mul_mul_comm_]
theorem powRest_even {m o x : Int} {e : Nat} (h : e % 2 = 0) : powRest m o (mMul m x x) (e / 2) = powRest m o x e := by
  unfold powRest
  rw [← emod_mul_r, ← emod_pow, sq_rinv, emod_pow, emod_mul_r, pow_half _ _ h]
theorem powRest_odd {m o x : Int} {e : Nat} (h : e % 2 = 1) : powRest m (mMul m o x) (mMul m x x) (e / 2) = powRest m o x e := by
  unfold powRest
  rw [← emod_mul_r, ← emod_pow, sq_rinv, emod_pow, emod_mul_r]
  unfold mMul
  rw [emod_mul_l, Int.mul_assoc o x, Int.mul_assoc o, pow_half1 _ _ h]
set_option maxHeartbeats 4000000 in
theorem Pow_some {v : Value} {m x e r : Int} {w : World} (hc : IsCtx w v m) (hx : U x) (he : U e) (hr : Aside0 (r = mPow m x e)) :
    Calls Try.prog 42 #[v, .int .u64 x, .int .u64 e] w fun e w' => e = .returned (.int .u64 r) ∧ Drawn0 w w' := by
  have hc' := hc
  obtain ⟨g, t, rfl, hb, hm, ht, hd⟩ := hc'
  obtain ⟨o, ho⟩ : ∃ o, o = mOne m := ⟨_, rfl⟩
  have k2 := hb.c2
  have f2 := blk_frozen hb 2
  rw [← ho] at k2
  have hI : U x ∧ U e ∧ U o ∧ o % m = o ∧ powRest m o x e.toNat = r := ⟨hx, he, by rw [ho]; exact U_mod hm _, by rw [ho]; exact Int.emod_emod _ _, by rw [ho, powRest_start, hr.out]⟩
  have HI := Aside0.mk hI
  have HB := Aside0.mk hc
  have HN : Aside0 (∀ n, IsCtx (w.drewN n) (.pointer (some ⟨g, 0, none⟩)) m) := ⟨fun _ => hc⟩
  have HM := Aside0.mk hm
  clear hI ho hb hm ht hd hx he hr hc
  go_enter Try.func42, Try.ntmps42
  go_wp2
  go_loopw [1, 2, 7] (fun a b c wr => ∃ X E O : Int, a = .int .u64 X ∧ b = .int .u64 E ∧ c = .int .u64 O ∧ Aside0 (U X ∧ U E ∧ U O ∧ O % m = O ∧ powRest m O X E.toNat = r) ∧ Drawn0 w wr) (fun _ b _ _ => (intOf b).toNat)
  case atStart => exact ⟨_, _, _, rfl, rfl, rfl, HI, Drawn0.refl _⟩
  case round =>
    clear HI k2 f2
    obtain ⟨X, E, O, rfl, rfl, rfl, HI, ⟨n, rfl⟩⟩ := hrel
    have hm := HM.out
    obtain ⟨uX, uE, uO, hO, hP⟩ := HI.out
    obtain ⟨X2, hX2⟩ : ∃ X2, X2 = mMul m X X := ⟨_, rfl⟩
    have S1 := Aside0.mk hX2
    have UX := Aside0.mk uX
    have UO := Aside0.mk uO
    by_cases h0 : 0 < E
    · have p0 : decide (0 < E) = true := decide_eq_true h0
      have hE0 : 0 ≤ E := by omega
      have hlt : (E / 2).toNat < E.toNat := by omega
      have hdv : (E / 2).toNat = E.toNat / 2 := by omega
      have uX2 : U X2 := by rw [hX2]; exact U_mod hm _
      have uE2 : U (E / 2) := by unfold U at *; omega
      have HLT := Aside0.mk hlt
      by_cases h1 : E % 2 = 1
      · have b1 : (Go.bits .and .u64 E 1 == 1) = true := by rw [and1 E uE, h1]; rfl
        obtain ⟨O2, hO2⟩ : ∃ O2, O2 = mMul m O X := ⟨_, rfl⟩
        have S2 := Aside0.mk hO2
        have HI' : Aside0 (U X2 ∧ U (E / 2) ∧ U O2 ∧ O2 % m = O2 ∧ powRest m O2 X2 (E / 2).toNat = r) :=
          ⟨uX2, uE2, by rw [hO2]; exact U_mod hm _, by rw [hO2]; exact Int.emod_emod _ _, by rw [hO2, hX2, hdv, powRest_odd (by omega), hP]⟩
        clear h0 hlt hdv uX2 uE2 h1 hO2 uX uE uO hO hP hX2 hm HI
        go_wp2_with (first
          | (go_at_call 45; (with_reducible refine (Mul_some HB.out UO.out UX.out S2).mono ?_); rintro e w' ⟨rfl, ⟨nd, rfl⟩⟩; (try first | exact qA | exact qB))
          | (go_at_call 45; (with_reducible refine (Mul_some (HN.out _) UO.out UX.out S2).mono ?_); rintro e w' ⟨rfl, ⟨nd, rfl⟩⟩; (try first | exact qA | exact qB))
          | (go_at_call 45; (with_reducible refine (Mul_some HB.out UX.out UX.out S1).mono ?_); rintro e w' ⟨rfl, ⟨nd, rfl⟩⟩; (try first | exact qA | exact qB))
          | (go_at_call 45; (with_reducible refine (Mul_some (HN.out _) UX.out UX.out S1).mono ?_); rintro e w' ⟨rfl, ⟨nd, rfl⟩⟩; (try first | exact qA | exact qB))
          )
        go_roundw
        case rel => exact ⟨X2, E / 2, O2, rfl, by first | rfl | (simp; done), rfl, HI', by repeat (first | exact Drawn0.refl _ | apply Drawn0.step)⟩
        case measure => simp [intOf]; have := HLT.out; omega
      · have b1 : (Go.bits .and .u64 E 1 == 1) = false := by rw [and1 E uE]; exact beq_eq_false_iff_ne.mpr h1
        have HI' : Aside0 (U X2 ∧ U (E / 2) ∧ U O ∧ O % m = O ∧ powRest m O X2 (E / 2).toNat = r) :=
          ⟨uX2, uE2, uO, hO, by rw [hX2, hdv, powRest_even (by omega), hP]⟩
        clear h0 hlt hdv uX2 uE2 h1 uX uE uO hO hP hX2 hm HI
        go_wp2_with (first
          | (go_at_call 45; (with_reducible refine (Mul_some HB.out UX.out UX.out S1).mono ?_); rintro e w' ⟨rfl, ⟨nd, rfl⟩⟩; (try first | exact qA | exact qB))
          | (go_at_call 45; (with_reducible refine (Mul_some (HN.out _) UX.out UX.out S1).mono ?_); rintro e w' ⟨rfl, ⟨nd, rfl⟩⟩; (try first | exact qA | exact qB))
          )
        go_roundw
        case rel => exact ⟨X2, E / 2, O, rfl, by first | rfl | (simp; done), rfl, HI', by repeat (first | exact Drawn0.refl _ | apply Drawn0.step)⟩
        case measure => simp [intOf]; have := HLT.out; omega
    · have p0 : decide (0 < E) = false := decide_eq_false h0
      have hz : E.toNat = 0 := by omega
      have HR : Aside0 (O = r) := ⟨by rw [← hP, hz, powRest_zero hO]⟩
      clear h0 hz uX uE uO hO hP hX2 hm HI
      go_wp2
      go_ret
      exact ⟨by rw [HR.out] <;> first | rfl | (simp; done), by repeat (first | exact Drawn0.refl _ | apply Drawn0.step)⟩
def newtonD : Nat → Int
  | 0 => 8
  | 1 => 64
  | 2 => 4096
  | 3 => 16777216
  | 4 => 281474976710656
  | _ => 18446744073709551616
theorem newton_step {m x : Int} (i : Nat) (hi : i < 5) (hx : newtonD i ∣ m * x - 1) :
    newtonD (i + 1) ∣ m * IntKind.u64.wrap (x * IntKind.u64.wrap (2 - IntKind.u64.wrap (m * x))) - 1 := by
  have h : i = 0 ∨ i = 1 ∨ i = 2 ∨ i = 3 ∨ i = 4 := by omega
  rcases h with rfl | rfl | rfl | rfl | rfl
  · exact newton (E := 64) hx ⟨1, by decide⟩ ⟨288230376151711744, by decide⟩
  · exact newton (E := 4096) hx ⟨1, by decide⟩ ⟨4503599627370496, by decide⟩
  · exact newton (E := 16777216) hx ⟨1, by decide⟩ ⟨1099511627776, by decide⟩
  · exact newton (E := 281474976710656) hx ⟨1, by decide⟩ ⟨65536, by decide⟩
  · exact newton (E := 18446744073709551616) hx ⟨4294967296, by decide⟩ ⟨1, by decide⟩
set_option maxHeartbeats 4000000 in
theorem New_fresh {m : Int} {w : World} (hm : GoodM m) :
    Calls Try.prog 58 #[.int .u64 m] w fun e w' => ∃ (g : Nat) (t : Int), e = .returned (.tuple #[.pointer (some ⟨g, 0, none⟩), .int .i64 0]) ∧ w.heap.size ≤ g ∧ CtxBlk w' g m t ∧ U t ∧ (18446744073709551616 : Int) ∣ m * t + 1 ∧ Below w.heap.size w w' := by
  have b1 : (Go.bits .and .u64 m 1 == 0) = false := by rw [and1 m (good_U hm), hm.1]; rfl
  have b2 : decide (m < 3) = false := decide_eq_false (by unfold GoodM at hm; omega)
  have b3 : decide (9223372036854775808 ≤ m) = false := decide_eq_false (by unfold GoodM at hm; omega)
  have hz : (m == 0) = false := beq_eq_false_iff_ne.mpr (good_ne hm)
  have hz1 : ¬ m = 0 := good_ne hm
  obtain ⟨o, ho⟩ : ∃ o, o = mOne m := ⟨_, rfl⟩
  have hone : Int.tmod (IntKind.u64.wrap (-m)) m = o := by
    have : IntKind.u64.wrap (-m) = 18446744073709551616 - m := by rw [wu64]; unfold GoodM at hm; omega
    rw [this, tmod_pos (by unfold GoodM at hm; omega), ho, Int.sub_emod_right]; rfl
  have uo : U o := by rw [ho]; exact U_mod hm _
  have uom : o < m := by rw [ho]; exact lt_mod hm _
  have p0 : 0 ≤ o * o := Int.mul_nonneg uo.1 uo.1
  have p1 : o * o ≤ (m - 1) * (m - 1) := Int.mul_le_mul (by omega) (by omega) uo.1 (by unfold GoodM at hm; omega)
  have p2 : (m - 1) * (m - 1) < m * 18446744073709551616 := by
    have : (m - 1) * (m - 1) ≤ (m - 1) * 18446744073709551616 := Int.mul_le_mul_of_nonneg_left (by unfold GoodM at hm; omega) (by unfold GoodM at hm; omega)
    unfold GoodM at hm; omega
  obtain ⟨h, hh⟩ : ∃ h, h = o * o / 18446744073709551616 := ⟨_, rfl⟩
  obtain ⟨l, hl⟩ : ∃ l, l = o * o % 18446744073709551616 := ⟨_, rfl⟩
  have M1 : Aside0 (bits_Mul64.f o o = some (h, l)) := ⟨by unfold bits_Mul64.f; rw [if_pos ⟨uo.1, uo.2, uo.1, uo.2⟩, hh, hl]⟩
  obtain ⟨s, hs⟩ : ∃ s, s = mSq m := ⟨_, rfl⟩
  obtain ⟨k, hk⟩ := Ev.rounds (bits_Rem64_ev h l m (by rw [hh]; unfold GoodM at hm; unfold U; omega) (by rw [hl]; unfold U; omega) (good_U hm) (good_ne hm))
  have K1 : Aside0 (bits_Rem64.f k h l m = some s) := ⟨by rw [hk, hs, hh, hl]; unfold mSq; rw [← ho]; congr 2; omega⟩
  have HM := Aside0.mk hm
  have HO := Aside0.mk ho
  have HS := Aside0.mk hs
  have hI : U m ∧ newtonD 0 ∣ m * m - 1 := ⟨good_U hm, newton0 hm.1⟩
  have HI := Aside0.mk hI
  clear hI ho hs uo uom p0 p1 p2 hh hl hk hm
  go_enter Try.func58, Try.ntmps58
  go_wp2
  go_loop [4, 20] (fun a c => ∃ (i : Nat) (X : Int), i ≤ 5 ∧ a = .int .u64 X ∧ c = .int .i64 i ∧ Aside0 (U X ∧ newtonD i ∣ m * X - 1)) (fun _ c => 5 - (intOf c).toNat)
  case atStart => exact ⟨0, m, by omega, rfl, rfl, HI⟩
  case round =>
    clear HI
    obtain ⟨i, X, hi5, rfl, rfl, HI⟩ := hrel
    by_cases hi : i < 5
    · have p0 : decide (i < 5) = true := decide_eq_true hi
      have HI' : Aside0 (U (IntKind.u64.wrap (X * IntKind.u64.wrap (2 - IntKind.u64.wrap (m * X)))) ∧ newtonD (i + 1) ∣ m * IntKind.u64.wrap (X * IntKind.u64.wrap (2 - IntKind.u64.wrap (m * X))) - 1) :=
        ⟨U_wrap _, newton_step i hi HI.out.2⟩
      clear HI
      go_wp2
      go_round
      case rel => exact ⟨i + 1, _, by omega, rfl, by go_num, HI'⟩
      case measure => simp [intOf]; omega
    · obtain rfl : i = 5 := by omega
      have p0 : decide ((5 : Nat) < 5) = false := by decide
      have hU := HI.out.1
      have hd : (18446744073709551616 : Int) ∣ m * IntKind.u64.wrap (-X) + 1 := by
        rw [wu64]
        have a1 : (18446744073709551616 : Int) ∣ -X % 18446744073709551616 - -X := dvd_emod_sub _ _
        have a2 : (18446744073709551616 : Int) ∣ m * X - 1 := HI.out.2
        generalize -X % 18446744073709551616 = B at *
        have e : m * B + 1 = m * (B - -X) - (m * X - 1) := by
          rw [Int.mul_sub, Int.mul_neg]; omega
        rw [e]
        exact Int.dvd_sub (Int.dvd_mul_of_dvd_right a1) a2
      have HD := Aside0.mk hd
      clear hd hU HI hi hi5
      go_wp2_with (first
        | (go_at_call 64; (with_reducible refine (mul64_calls M1).mono ?_); rintro e w' ⟨rfl, ⟨nd, rfl⟩⟩; (try first | exact qA | exact qB))
        | (go_at_call 76; (with_reducible refine (bits_Rem64.calls k h l m s _ K1.out).mono ?_); rintro e w' ⟨rfl, ⟨nd, rfl⟩⟩; (try first | exact qA | exact qB))
        )
      go_ret2
      refine ⟨w.heap.size, IntKind.u64.wrap (-X), by first | rfl | (simp; done), Nat.le_refl _, ?_, U_wrap _, HD.out, by repeat (first | exact Below.refl _ _ | apply below_alloc | apply pw_below_drewN)⟩
      unfold CtxBlk
      rw [← HO.out, ← HS.out]
      exact blk_new _ _
theorem New_good {m : Int} {w : World} (hm : GoodM m) :
    Calls Try.prog 58 #[.int .u64 m] w fun e w' => ∃ v, e = .returned (.tuple #[v, .int .i64 0]) ∧ IsCtx w' v m ∧ Below w.heap.size w w' := by
  refine (New_fresh hm).mono ?_
  rintro e w' ⟨g, t, he, _, hb, ht, hd, hB⟩
  exact ⟨_, he, ⟨g, t, rfl, hb, hm, ht, hd⟩, hB⟩
end Go.Proofs.Ythnpjjpdlihepaa.Mont
end
section
namespace Go.Proofs.Ythnpjjpdlihepaa.XS
open Go Go.RowKit Go.Proofs.YthnpjjpdlihepaaW.PrintWords Go.Proofs.YthnpjjpdlihepaaW.PrintLast Go.Proofs.YthnpjjpdlihepaaW.PrintMore Go.Proofs.Ythnpjjpdlihepaa.Given Go.Proofs.Ythnpjjpdlihepaa.M
theorem modular_Mul_ev {a b m : Int} (ha : U a) (hb : U b) (hm : U m) (h : m ≠ 0) : Ev (fun k => modular_Mul.f k a b m) (a * b % m) := by
  have hlt : a * b < 18446744073709551616 * 18446744073709551616 := by
    have := mul_le_of ha.1 hb.1 (A := 18446744073709551615) (B := 18446744073709551615) (by unfold U at *; omega) (by unfold U at *; omega)
    omega
  have h0 : 0 ≤ a * b := Int.mul_nonneg ha.1 hb.1
  have e := bits_Rem64_ev (a * b / 18446744073709551616) (a * b % 18446744073709551616) m (by unfold U; omega) (by unfold U; omega) hm h
  rw [show a * b / 18446744073709551616 * 18446744073709551616 + a * b % 18446744073709551616 = a * b from by omega] at e
  refine Ev.congr (fun k => ?_) (Ev.bind e (Ev.now _))
  unfold modular_Mul.f bits_Mul64.f
  rw [if_neg h, if_pos ⟨ha.1, ha.2, hb.1, hb.2⟩]
  rfl
theorem modular_Pow_l0 {m : Int} (hm : U m) (h : m ≠ 0) (n : Nat) : ∀ (e : Nat) (a out : Int), e ≤ n → (e : Int) < 18446744073709551616 → U a → U out → out % m = out →
    Ev (fun k => modular_Pow.l0 k a e m out) (out * a ^ e % m) := by
  induction n using Nat.strongRecOn with
  | _ n ih =>
    intro e a out hen heU ha ho hom
    by_cases hz : e = 0
    · subst hz
      rw [Int.pow_zero, Int.mul_one, hom]
      refine Ev.step (fun k => ?_) (Ev.now _)
      simp only [modular_Pow.l0]
      rw [if_neg (by simp)]
    · have hc : ((e : Int) / 2) = ((e / 2 : Nat) : Int) := by omega
      have hU : U (e : Int) := by unfold U; omega
      by_cases hb : e % 2 = 1
      · have i := ih (e / 2) (by omega) (e / 2) (a * a % m) (out * a % m) (by omega) (by omega) (U_emod _ hm h) (U_emod _ hm h) (Int.emod_emod _ _)
        have e1 : out * a % m * (a * a % m) ^ (e / 2) % m = out * a ^ e % m := by
          rw [emod_mul_l, ← emod_mul_r, emod_pow, emod_mul_r, Int.mul_assoc, pow_half1 a e hb]
        rw [e1] at i
        refine stepE ⟨_, fun k => by simp only [modular_Pow.l0]; rw [if_pos (by omega), if_pos (by rw [and1 _ hU]; omega), hc], ?_⟩
        exact Ev.bind (modular_Mul_ev ho ha hm h) (Ev.bind (modular_Mul_ev ha ha hm h) i)
      · have i := ih (e / 2) (by omega) (e / 2) (a * a % m) out (by omega) (by omega) (U_emod _ hm h) ho hom
        have e1 : out * (a * a % m) ^ (e / 2) % m = out * a ^ e % m := by
          rw [← emod_mul_r, emod_pow, emod_mul_r, pow_half a e (by omega)]
        rw [e1] at i
        refine stepE ⟨_, fun k => by simp only [modular_Pow.l0]; rw [if_pos (by omega), if_neg (by rw [and1 _ hU]; omega), hc], ?_⟩
        exact Ev.bind (modular_Mul_ev ha ha hm h) i
theorem modular_Pow_ev {a e m : Int} (ha : U a) (he : U e) (hm : U m) (h : m ≠ 0) : Ev (fun k => modular_Pow.f k a e m) (a ^ e.toNat % m) := by
  obtain ⟨n, rfl⟩ := Int.eq_ofNat_of_zero_le he.1
  have i := modular_Pow_l0 hm h n n a (1 % m) (Nat.le_refl _) he.2 ha (U_one hm h) (Int.emod_emod _ _)
  rw [emod_mul_l, Int.one_mul] at i
  refine Ev.congr (fun k => ?_) i
  unfold modular_Pow.f
  rw [if_neg h]
end Go.Proofs.Ythnpjjpdlihepaa.XS
end
section
namespace Go.Proofs.Ythnpjjpdlihepaa.XS
open Go Go.RowKit Go.Proofs.YthnpjjpdlihepaaW.PrintWords Go.Proofs.YthnpjjpdlihepaaW.PrintLast Go.Proofs.YthnpjjpdlihepaaW.PrintMore Go.Proofs.Ythnpjjpdlihepaa.Given Go.Proofs.Ythnpjjpdlihepaa.M
theorem dvd_emod_sub (x m : Int) : m ∣ x % m - x := by
  rw [Int.emod_def]
  exact ⟨-(x / m), by rw [Int.mul_neg]; omega⟩
theorem emod_of_dvd_sub {x y m : Int} (h : m ∣ x - y) : x % m = y % m := Int.emod_eq_emod_iff_emod_sub_eq_zero.2 (Int.emod_eq_zero_of_dvd h)
theorem dvd_sub_of_emod {x y m : Int} (h : x % m = y % m) : m ∣ x - y := Int.dvd_of_emod_eq_zero (Int.emod_eq_emod_iff_emod_sub_eq_zero.1 h)
end Go.Proofs.Ythnpjjpdlihepaa.XS
end
section
namespace Go.Proofs.Ythnpjjpdlihepaa.Given04
open Go Go.RowKit Go.Proofs.YthnpjjpdlihepaaW.PrintWords Go.Proofs.YthnpjjpdlihepaaW.PrintLast Go.Proofs.YthnpjjpdlihepaaW.PrintMore Go.Proofs.Ythnpjjpdlihepaa.Given Go.Proofs.Ythnpjjpdlihepaa.M Go.Proofs.Ythnpjjpdlihepaa.Mont Go.Proofs.Ythnpjjpdlihepaa.XS Go.Proofs.Ythnpjjpdlihepaa.XT
theorem clo_calls {p g q : Int} {sv : Value} {b : Nat} {w : World} {r : Bool} (hb : w.heap[b]? = some (.cells #[.int .u64 q] 22 (0, 0))) (hr : Aside0 ((p == q) = r)) :
    Calls Try.prog 112 #[.agg #[.int .u64 p, .int .u64 g, sv], .pointer (some ⟨b, 0, none⟩)] w fun e w' => e = .returned (.bool r) ∧ Below w.heap.size w w' := by
  have hc : w.cell? ⟨b, 0, none⟩ = some (.int .u64 q) := (blk_cell hb 0).trans rfl
  have hf := blk_frozen hb 0
  have hu := Try.underlying67
  have hlt := blk_lt hb
  clear hb
  go_enter Try.func112, Try.ntmps112
  go_wp2
  go_ret
  exact ⟨by rw [← hr.out] <;> first | rfl | (simp; done), below_alloc (Below.refl _ _) _⟩
def hasP (l : List S67) (q : Int) : Bool := l.any fun e => e.f0 == q
theorem any_take_succ (l : List S67) (q : Int) (i : Nat) (h : i < l.length) : hasP (l.take (i + 1)) q = (hasP (l.take i) q || ((rd_T67 l (i : Int)).f0 == q)) := by
  unfold hasP rd_T67
  rw [List.take_succ_eq_append_getElem h, List.any_append]
  simp [List.getD, List.getElem?_eq_getElem h]
theorem hasP_of_take {l : List S67} {q : Int} {i : Nat} (h : hasP (l.take i) q = true) : hasP l q = true := by
  unfold hasP at *
  rw [List.any_eq_true] at *
  obtain ⟨x, hx, he⟩ := h
  exact ⟨x, List.mem_of_mem_take hx, he⟩
set_option maxHeartbeats 2000000 in
theorem index_calls {A0 : Option Addr} {c0 b : Nat} {l0 : List S67} {q : Int} {w : World} (hr0 : Kd.C k67 w A0 l0.length l0) (hb : w.heap[b]? = some (.cells #[.int .u64 q] 22 (0, 0))) :
    Calls Try.prog 119 #[.slice A0 l0.length c0, .func (Fn.func 112) #[] #[.pointer (some ⟨b, 0, none⟩)]] w fun e w' => ∃ i : Int, e = .returned (.int .i64 i) ∧ decide (0 ≤ i) = hasP l0 q ∧ Below w.heap.size w w' := by
  have hlen : l0.length ≤ 9223372036854775807 := hr0.2.1
  have HR0 := Aside0.mk hr0
  have HC := Aside0.mk hb
  have h0 : Aside0 (hasP (l0.take 0) q = false) := ⟨rfl⟩
  clear hr0 hb
  go_enter Try.func119, Try.ntmps119
  go_wp2
  go_loopw [8] (fun v8 w' => ∃ i : Nat, v8 = .int .i64 i ∧ i ≤ l0.length ∧ Aside0 (hasP (l0.take i) q = false) ∧ Aside0 (Below w.heap.size w w')) (fun v8 _ => l0.length - (intOf v8).toNat)
  case atStart => exact ⟨0, rfl, by omega, h0, ⟨Below.refl _ _⟩⟩
  case round =>
    clear h0
    obtain ⟨i, rfl, hi, H1, HB⟩ := hrel
    by_cases hlt : i < l0.length
    · have c3b0 : decide ((i : Int) < (l0.length : Int)) = true := decide_eq_true (by omega)
      have c3b1 : decide (i < l0.length) = true := decide_eq_true hlt
      have p1 : 0 ≤ (i : Int) := by omega
      have q1 : (i : Int) < (l0.length : Int) := by omega
      obtain ⟨ad, A2, c2, e1, hx0, hx1, hx2, hl2, hi2⟩ := at_T67 HR0.out i p1 q1
      cases e1
      replace hx0 := (HB.out.cell (World.block_lt_of_cell? w _ hx0)).trans hx0
      replace hx1 := (HB.out.cell (World.block_lt_of_cell? w _ hx1)).trans hx1
      replace hx2 := (HB.out.cell (World.block_lt_of_cell? w _ hx2)).trans hx2
      simp only [Int.toNat_natCast] at hx0 hx1 hx2
      have HBLK := Aside0.mk (blk_below HC.out HB.out)
      have hstep := any_take_succ l0 q i hlt
      clear hi2 hl2 hlt
      cases hm : ((rd_T67 l0 (i : Int)).f0 == q) with
      | true =>
        have HM := Aside0.mk hm
        have HF : Aside0 (hasP l0 q = true) := ⟨hasP_of_take (i := i + 1) (by rw [hstep, hm]; simp)⟩
        clear hm hstep
        go_wp2_with (go_at_call 112; (with_reducible refine (clo_calls HBLK.out HM).mono ?_); rintro e w2 ⟨rfl, hb2⟩; have HB2 := Aside0.mk hb2; clear hb2)
        go_ret
        exact ⟨i, by first | rfl | (simp; done), by rw [HF.out]; exact decide_eq_true (by omega), below_step HB.out HB2.out⟩
      | false =>
        have HM := Aside0.mk hm
        have HF : Aside0 (hasP (l0.take (i + 1)) q = false) := ⟨by rw [hstep, hm, H1.out]; rfl⟩
        clear hm hstep
        go_wp2_with (go_at_call 112; (with_reducible refine (clo_calls HBLK.out HM).mono ?_); rintro e w2 ⟨rfl, hb2⟩; have HB2 := Aside0.mk hb2; clear hb2)
        go_roundw
        case rel => exact ⟨i + 1, by go_num, by omega, HF, ⟨below_step HB.out HB2.out⟩⟩
        case measure => simp [intOf]; omega
    · have c3b0 : decide ((i : Int) < (l0.length : Int)) = false := decide_eq_false (by omega)
      have c3b1 : decide (i < l0.length) = false := decide_eq_false hlt
      have HF : Aside0 (hasP l0 q = false) := ⟨by have := H1.out; rwa [List.take_of_length_le (by omega)] at this⟩
      clear hlt
      go_wp2
      go_ret
      exact ⟨-1, by first | rfl | (simp; done), by rw [HF.out]; rfl, HB.out⟩
theorem contains_calls {A0 : Option Addr} {c0 b : Nat} {l0 : List S67} {q : Int} {w : World} (hr0 : Kd.C k67 w A0 l0.length l0) (hb : w.heap[b]? = some (.cells #[.int .u64 q] 22 (0, 0))) :
    Calls Try.prog 111 #[.slice A0 l0.length c0, .func (Fn.func 112) #[] #[.pointer (some ⟨b, 0, none⟩)]] w fun e w' => e = .returned (.bool (hasP l0 q)) ∧ Below w.heap.size w w' := by
  have HR0 := Aside0.mk hr0
  have HC := Aside0.mk hb
  clear hr0 hb
  go_enter Try.func111, Try.ntmps111
  go_wp2_with (go_at_call 119; (with_reducible refine (index_calls HR0.out HC.out).mono ?_); rintro e w2 ⟨i, rfl, hd, hb2⟩; have HB2 := Aside0.mk hb2; have HD := Aside0.mk hd; clear hb2 hd)
  go_ret
  exact ⟨by rw [← HD.out] <;> first | rfl | (simp; done), HB2.out⟩
def proof_claimed.f (l0 : List S67) (a1 : Int) : Option Bool := some (hasP l0 a1)
theorem proof_claimed.calls (A0 : Option Addr) (c0 : Nat) (l0 : List S67) (a1 : Int) (r : Bool) (w : World) (hr0 : Kd.C k67 w A0 l0.length l0) (_hc0 : l0.length ≤ c0) (h : proof_claimed.f l0 a1 = some r) :
    Calls Try.prog 96 #[.slice A0 l0.length c0, .int .u64 a1] w fun e w' => e = .returned (.bool r) ∧ Below w.heap.size w w' := by
  have HR : Aside0 (hasP l0 a1 = r) := ⟨Option.some.inj h⟩
  have HR0 : Aside0 (Kd.C k67 (w.alloc (.cells #[.int .u64 a1] 22)) A0 l0.length l0) := ⟨Kd.C_alloc hr0 _⟩
  have HC : Aside0 ((w.alloc (.cells #[.int .u64 a1] 22)).heap[w.heap.size]? = some (.cells #[.int .u64 a1] 22 (0, 0))) := ⟨blk_new _ _⟩
  clear h hr0
  go_enter Try.func96, Try.ntmps96
  go_wp2_with (go_at_call 111; (with_reducible refine (contains_calls HR0.out HC.out).mono ?_); rintro e w2 ⟨rfl, hb2⟩; have HB2 := Aside0.mk hb2; clear hb2)
  go_ret
  exact ⟨by rw [← HR.out] <;> first | rfl | (simp; done), below_step (below_alloc (Below.refl _ _) _) HB2.out⟩
end Go.Proofs.Ythnpjjpdlihepaa.Given04
end
section
namespace Go.Proofs.Ythnpjjpdlihepaa.Given04
open Go Go.RowKit Go.Proofs.YthnpjjpdlihepaaW.PrintWords Go.Proofs.YthnpjjpdlihepaaW.PrintLast Go.Proofs.YthnpjjpdlihepaaW.PrintMore Go.Proofs.Ythnpjjpdlihepaa.Given Go.Proofs.Ythnpjjpdlihepaa.M Go.Proofs.Ythnpjjpdlihepaa.Mont Go.Proofs.Ythnpjjpdlihepaa.XS Go.Proofs.Ythnpjjpdlihepaa.XT
theorem pow_one_iff {m : Int} (g : GoodM m) (x e : Int) : (mPow m (mIn m x) e == mOne m) = (x ^ e.toNat % m == 1) := by
  rw [pow_in g]
  have h1 : mOne m = mIn m 1 := by unfold mOne mIn; rw [Int.one_mul]
  have h2 : (1 : Int) % m = 1 := Int.emod_eq_of_lt (by omega) (by unfold GoodM at g; omega)
  rw [h1]
  by_cases h : x ^ e.toNat % m = 1
  · have : mIn m (x ^ e.toNat) = mIn m 1 := by rw [← in_rest (x ^ e.toNat), h]
    rw [this, h]; simp
  · have : mIn m (x ^ e.toNat) ≠ mIn m 1 := fun q => h (by have := strike g q; rw [this, h2])
    rw [beq_eq_false_iff_ne.mpr this, beq_eq_false_iff_ne.mpr h]
def bad1 (P G : Int) (x : S65) : Bool := G ^ ((P - 1) / x.f0).toNat % P == 1
def okF (P G : Int) (l : List S65) : Prop := GoodM P ∧ U G ∧ ∀ x ∈ l, 1 ≤ x.f0 ∧ U x.f0
instance (P G : Int) (l : List S65) : Decidable (okF P G l) := by unfold okF GoodM U; infer_instance
def proof_full.f (P G : Int) (l : List S65) : Option Bool :=
  if okF P G l then some ((G ^ (P - 1).toNat % P == 1) && !(l.any (bad1 P G))) else none
theorem any_take_succ1 (l : List S65) (f : S65 → Bool) (i : Nat) (h : i < l.length) : (l.take (i + 1)).any f = ((l.take i).any f || f (rd_T65 l (i : Int))) := by
  unfold rd_T65
  rw [List.take_succ_eq_append_getElem h, List.any_append]
  simp [List.getD, List.getElem?_eq_getElem h]
theorem any_of_take {l : List S65} {f : S65 → Bool} {i : Nat} (h : (l.take i).any f = true) : l.any f = true := by
  rw [List.any_eq_true] at *
  obtain ⟨x, hx, he⟩ := h
  exact ⟨x, List.mem_of_mem_take hx, he⟩
theorem rd_mem {l : List S65} {i : Nat} (h : i < l.length) : rd_T65 l (i : Int) ∈ l := by
  unfold rd_T65
  simp [List.getD, List.getElem?_eq_getElem h]
set_option maxRecDepth 100000 in
set_option maxHeartbeats 8000000 in
theorem proof_full.calls (P G : Int) (A0 : Option Addr) (c0 : Nat) (l : List S65) (r : Bool) (w : World) (hr0 : Kd.C k65 w A0 l.length l) (_hc0 : l.length ≤ c0) (h : proof_full.f P G l = some r) :
    Calls Try.prog 88 #[.agg #[.int .u64 P, .int .u64 G, .slice A0 l.length c0]] w fun e w' => e = .returned (.bool r) ∧ Below w.heap.size w w' := by
  unfold proof_full.f at h
  split at h
  case isFalse => cases h
  rename_i hok
  have HR := Aside0.mk (Option.some.inj h)
  clear h
  obtain ⟨w1, hw1⟩ : ∃ w1, w1 = w.alloc (.cells #[.int .u64 P, .int .u64 G, .slice A0 l.length c0] 67) := ⟨_, rfl⟩
  have hG : Aside0 (GoodM P) := ⟨hok.1⟩
  obtain ⟨g, hg⟩ : ∃ g, g = mIn P G := ⟨_, rfl⟩
  obtain ⟨o, ho⟩ : ∃ o, o = mOne P := ⟨_, rfl⟩
  obtain ⟨m1, hm1⟩ : ∃ m1, m1 = P - 1 := ⟨_, rfl⟩
  obtain ⟨pw, hpw⟩ : ∃ pw, pw = mPow P g m1 := ⟨_, rfl⟩
  have hwr : IntKind.u64.wrap (P - 1) = m1 := by rw [wu64, hm1]; have := hok.1; unfold GoodM at this; omega
  have SG := Aside0.mk hg
  have SO := Aside0.mk ho
  have SP := Aside0.mk hpw
  have UG := Aside0.mk hok.2.1
  have Ug : Aside0 (U g) := ⟨by rw [hg]; exact U_mod hok.1 _⟩
  have Um : Aside0 (U m1) := ⟨by rw [hm1]; have := hok.1; unfold GoodM at this; unfold U; omega⟩
  have HM1 := Aside0.mk hm1
  have HOK := Aside0.mk hok
  have HLEN : Aside0 (l.length ≤ 9223372036854775807) := ⟨hr0.2.1⟩
  have HB1 : Aside0 (w1.heap[w.heap.size]? = some (.cells #[.int .u64 P, .int .u64 G, .slice A0 l.length c0] 67 (0, 0))) := ⟨by rw [hw1]; exact blk_new _ _⟩
  have HC1 : Aside0 (Kd.C k65 w1 A0 l.length l) := ⟨by rw [hw1]; exact Kd.C_alloc hr0 _⟩
  have HW1 : Aside0 (Below w.heap.size w w1) := ⟨by rw [hw1]; exact below_alloc (Below.refl _ _) _⟩
  have hfirst : (pw == o) = (G ^ (P - 1).toNat % P == 1) := by rw [hpw, ho, hg, hm1, pow_one_iff hok.1]
  have hbx : w1.cell? ⟨w.heap.size, 0, none⟩ = some (.int .u64 P) := (blk_cell HB1.out 0).trans rfl
  cases hb : (pw == o) with
  | false =>
    have HR' : Aside0 (r = false) := ⟨by rw [← HR.out, ← hfirst, hb]; rfl⟩
    clear hr0 _hc0 hok HR hg ho hm1 hpw hfirst HOK HLEN
    go_enter Try.func88, Try.ntmps88
    go_wp2_with (first
        | (go_at_call 58; (with_reducible refine (New_good hG.out).mono ?_); rintro e w2 ⟨v, rfl, hv, hb2⟩; (have HB2 : Aside0 (Below w1.heap.size w1 w2) := ⟨by rw [hw1]; exact hb2⟩); have HE := Aside0.mk (blk_below HB1.out HB2.out); (have e0 : w2.cell? ⟨w.heap.size, 0, none⟩ = some (.int .u64 P) := (blk_cell HE.out 0).trans rfl); (have e1 : w2.cell? ⟨w.heap.size, 1, none⟩ = some (.int .u64 G) := (blk_cell HE.out 1).trans rfl); (have e2 : w2.cell? ⟨w.heap.size, 2, none⟩ = some (.slice A0 l.length c0) := (blk_cell HE.out 2).trans rfl); have HB := Aside0.mk hv; (have HN : Aside0 (∀ n, IsCtx (w2.drewN n) v P) := ⟨fun _ => HB.out⟩); clear hb2 hv)
        | (go_at_call 43; (with_reducible refine (In_some HB.out UG.out SG).mono ?_); rintro e w' ⟨rfl, ⟨nd, rfl⟩⟩; (try first | exact qA | exact qB))
        | (go_at_call 43; (with_reducible refine (In_some (HN.out _) UG.out SG).mono ?_); rintro e w' ⟨rfl, ⟨nd, rfl⟩⟩; (try first | exact qA | exact qB))
        | (go_at_call 42; (with_reducible refine (Pow_some HB.out Ug.out Um.out SP).mono ?_); rintro e w' ⟨rfl, ⟨nd, rfl⟩⟩; (try first | exact qA | exact qB))
        | (go_at_call 42; (with_reducible refine (Pow_some (HN.out _) Ug.out Um.out SP).mono ?_); rintro e w' ⟨rfl, ⟨nd, rfl⟩⟩; (try first | exact qA | exact qB))
        | (go_at_call 97; (with_reducible refine (One_some HB.out SO).mono ?_); rintro e w' ⟨rfl, ⟨nd, rfl⟩⟩; (try first | exact qA | exact qB))
        | (go_at_call 97; (with_reducible refine (One_some (HN.out _) SO).mono ?_); rintro e w' ⟨rfl, ⟨nd, rfl⟩⟩; (try first | exact qA | exact qB))
      )
    go_ret
    exact ⟨by rw [HR'.out] <;> first | rfl | (simp; done), by repeat (first | exact below_step HW1.out HB2.out | apply pw_below_drewN)⟩
  | true =>
    have HF : Aside0 ((!(l.any (bad1 P G))) = r) := ⟨by rw [← HR.out, ← hfirst, hb]; rfl⟩
    have hne : (pw != o) = false := by rw [bne, hb]; rfl
    have h00 : Aside0 ((l.take 0).any (bad1 P G) = false) := ⟨rfl⟩
    clear hr0 _hc0 hok HR hg ho hm1 hpw hfirst
    go_enter Try.func88, Try.ntmps88
    go_wp2_with (first
        | (go_at_call 58; (with_reducible refine (New_good hG.out).mono ?_); rintro e w2 ⟨v, rfl, hv, hb2⟩; (have HB2 : Aside0 (Below w1.heap.size w1 w2) := ⟨by rw [hw1]; exact hb2⟩); have HE := Aside0.mk (blk_below HB1.out HB2.out); (have e0 : w2.cell? ⟨w.heap.size, 0, none⟩ = some (.int .u64 P) := (blk_cell HE.out 0).trans rfl); (have e1 : w2.cell? ⟨w.heap.size, 1, none⟩ = some (.int .u64 G) := (blk_cell HE.out 1).trans rfl); (have e2 : w2.cell? ⟨w.heap.size, 2, none⟩ = some (.slice A0 l.length c0) := (blk_cell HE.out 2).trans rfl); have HB := Aside0.mk hv; (have HN : Aside0 (∀ n, IsCtx (w2.drewN n) v P) := ⟨fun _ => HB.out⟩); clear hb2 hv)
        | (go_at_call 43; (with_reducible refine (In_some HB.out UG.out SG).mono ?_); rintro e w' ⟨rfl, ⟨nd, rfl⟩⟩; (try first | exact qA | exact qB))
        | (go_at_call 43; (with_reducible refine (In_some (HN.out _) UG.out SG).mono ?_); rintro e w' ⟨rfl, ⟨nd, rfl⟩⟩; (try first | exact qA | exact qB))
        | (go_at_call 42; (with_reducible refine (Pow_some HB.out Ug.out Um.out SP).mono ?_); rintro e w' ⟨rfl, ⟨nd, rfl⟩⟩; (try first | exact qA | exact qB))
        | (go_at_call 42; (with_reducible refine (Pow_some (HN.out _) Ug.out Um.out SP).mono ?_); rintro e w' ⟨rfl, ⟨nd, rfl⟩⟩; (try first | exact qA | exact qB))
        | (go_at_call 97; (with_reducible refine (One_some HB.out SO).mono ?_); rintro e w' ⟨rfl, ⟨nd, rfl⟩⟩; (try first | exact qA | exact qB))
        | (go_at_call 97; (with_reducible refine (One_some (HN.out _) SO).mono ?_); rintro e w' ⟨rfl, ⟨nd, rfl⟩⟩; (try first | exact qA | exact qB))
      )
    go_loopw [30] (fun v30 wr => ∃ i : Nat, v30 = .int .i64 i ∧ i ≤ l.length ∧ Aside0 ((l.take i).any (bad1 P G) = false) ∧ Aside0 (Below w2.heap.size w2 wr)) (fun v30 _ => l.length - (intOf v30).toNat)
    case atStart => exact ⟨0, rfl, by omega, h00, ⟨by repeat (first | exact Below.refl _ _ | apply pw_below_drewN)⟩⟩
    case round =>
      clear h00
      have HC2 : Aside0 (Kd.C k65 w2 A0 l.length l) := ⟨Kd.C_below HC1.out HB2.out⟩
      obtain ⟨i, rfl, hi, H1, HBW⟩ := hrel
      have hlen := HLEN.out
      by_cases hlt : i < l.length
      · have c3b0 : decide ((i : Int) < (l.length : Int)) = true := decide_eq_true (by omega)
        have c3b1 : decide (i < l.length) = true := decide_eq_true hlt
        have p1 : 0 ≤ (i : Int) := by omega
        have q1 : (i : Int) < (l.length : Int) := by omega
        obtain ⟨ad, rfl, hx0, hx1⟩ := at_T65 HC2.out i (by omega) (by omega)
        replace hx0 := (HBW.out.cell (World.block_lt_of_cell? w2 _ hx0)).trans hx0
        replace hx1 := (HBW.out.cell (World.block_lt_of_cell? w2 _ hx1)).trans hx1
        simp only [Int.toNat_natCast] at hx0 hx1
        replace e0 := (HBW.out.cell (World.block_lt_of_cell? w2 _ e0)).trans e0
        replace e1 := (HBW.out.cell (World.block_lt_of_cell? w2 _ e1)).trans e1
        replace e2 := (HBW.out.cell (World.block_lt_of_cell? w2 _ e2)).trans e2
        have hstep := any_take_succ1 l (bad1 P G) i hlt
        have hxm := HOK.out.2.2 _ (rd_mem hlt)
        have HEB := Aside0.mk (blk_below HE.out HBW.out)
        obtain ⟨Q, hQ⟩ : ∃ Q, Q = (rd_T65 l (i : Int)).f0 := ⟨_, rfl⟩
        obtain ⟨E, hE⟩ : ∃ E, E = (rd_T65 l (i : Int)).f1 := ⟨_, rfl⟩
        rw [← hQ] at hx0 hxm
        rw [← hE] at hx1
        have hbd : bad1 P G (rd_T65 l (i : Int)) = (G ^ ((P - 1) / Q).toNat % P == 1) := by rw [hQ]; rfl
        rw [hbd, H1.out, Bool.false_or] at hstep
        obtain ⟨d, hd⟩ : ∃ d, d = (P - 1) / Q := ⟨_, rfl⟩
        obtain ⟨pd, hpd⟩ : ∃ pd, pd = mPow P g d := ⟨_, rfl⟩
        have hm1 := HM1.out
        have hz : (Q == 0) = false := beq_eq_false_iff_ne.mpr (by omega)
        have hz1 : ¬ Q = 0 := by omega
        have hdv : Int.tdiv m1 Q = d := by rw [tdiv_pos Um.out.1, hd, hm1]
        have SD := Aside0.mk hpd
        have Ud : Aside0 (U d) := ⟨by
          have u := Um.out
          have : (P - 1) / Q ≤ P - 1 := Int.ediv_le_self _ (by rw [← hm1]; exact u.1)
          have h0 : 0 ≤ (P - 1) / Q := Int.ediv_nonneg (by rw [← hm1]; exact u.1) (by omega)
          rw [hd]; unfold U at *; omega⟩
        have hdw : IntKind.u64.wrap d = d := by have u := Ud.out; rw [wu64]; exact Int.emod_eq_of_lt u.1 u.2
        have hcmp : (pd == o) = (l.take (i + 1)).any (bad1 P G) := by rw [hpd, SO.out, SG.out, pow_one_iff hG.out, hstep, hd]
        have HS := Aside0.mk hstep
        have HC := Aside0.mk hcmp
        have HLT := Aside0.mk hlt
        clear hstep hcmp hxm hQ hE hbd hd hpd hm1 hi hlt
        cases hbq : (pd == o) with
        | true =>
          have HR' : Aside0 (r = false) := ⟨by rw [← HF.out, any_of_take (i := i + 1) (by rw [← HC.out, hbq])]; rfl⟩
          go_wp2_with (first
            | ((with_reducible refine gate_dst (N := 7) rfl ?_); refine box_event ?hg (N := 7) ?hd (cs := #[.int .u64 0, .int .i64 0]) (t := 65) ?hr ?_; (case hd => rfl); (case hg => rfl); (case hr => first | (go_simp; done) | (go_simp; rfl)); intro gb hg w11 hbox hbx2; (have GE : Aside0 (w2.heap.size ≤ gb) := ⟨by rw [hg]; exact HBW.out.size⟩); (have ne1 : gb ≠ w.heap.size := (by have := blk_lt HE.out; have := GE.out; omega)); have ne2 := Ne.symm ne1; (have HBX : Aside0 (Below w2.heap.size w2 w11) := ⟨below_step HBW.out hbx2⟩); replace e0 := (hbx2.cell (World.block_lt_of_cell? wr _ e0)).trans e0; (have z0 : w11.cell? ⟨gb, 0, none⟩ = some (.int .u64 0) := (blk_cell hbox 0).trans rfl); (have z1 : w11.cell? ⟨gb, 1, none⟩ = some (.int .i64 0) := (blk_cell hbox 1).trans rfl); have z2 := blk_frozen hbox 0; have z3 := blk_frozen hbox 1; clear hbox hbx2 hg e1 e2 hx0 hx1)
            | (go_at_call 42; (with_reducible refine (Pow_some (HB.out.below (by repeat (first | exact HBX.out | apply pw_below_drewN | refine below_set ?_ GE.out))) Ug.out Ud.out SD).mono ?_); rintro e w' ⟨rfl, ⟨nd, rfl⟩⟩; (try first | exact qA | exact qB))
            | (go_at_call 97; (with_reducible refine (One_some (HB.out.below (by repeat (first | exact HBX.out | apply pw_below_drewN | refine below_set ?_ GE.out))) SO).mono ?_); rintro e w' ⟨rfl, ⟨nd, rfl⟩⟩; (try first | exact qA | exact qB))
          )
          go_ret
          exact ⟨by rw [HR'.out] <;> first | rfl | (simp; done), below_step (below_step HW1.out HB2.out) (by repeat (first | exact HBX.out | apply pw_below_drewN | refine below_set ?_ GE.out))⟩
        | false =>
          have HA : Aside0 ((l.take (i + 1)).any (bad1 P G) = false) := ⟨by rw [← HC.out, hbq]⟩
          go_wp2_with (first
            | ((with_reducible refine gate_dst (N := 7) rfl ?_); refine box_event ?hg (N := 7) ?hd (cs := #[.int .u64 0, .int .i64 0]) (t := 65) ?hr ?_; (case hd => rfl); (case hg => rfl); (case hr => first | (go_simp; done) | (go_simp; rfl)); intro gb hg w11 hbox hbx2; (have GE : Aside0 (w2.heap.size ≤ gb) := ⟨by rw [hg]; exact HBW.out.size⟩); (have ne1 : gb ≠ w.heap.size := (by have := blk_lt HE.out; have := GE.out; omega)); have ne2 := Ne.symm ne1; (have HBX : Aside0 (Below w2.heap.size w2 w11) := ⟨below_step HBW.out hbx2⟩); replace e0 := (hbx2.cell (World.block_lt_of_cell? wr _ e0)).trans e0; (have z0 : w11.cell? ⟨gb, 0, none⟩ = some (.int .u64 0) := (blk_cell hbox 0).trans rfl); (have z1 : w11.cell? ⟨gb, 1, none⟩ = some (.int .i64 0) := (blk_cell hbox 1).trans rfl); have z2 := blk_frozen hbox 0; have z3 := blk_frozen hbox 1; clear hbox hbx2 hg e1 e2 hx0 hx1)
            | (go_at_call 42; (with_reducible refine (Pow_some (HB.out.below (by repeat (first | exact HBX.out | apply pw_below_drewN | refine below_set ?_ GE.out))) Ug.out Ud.out SD).mono ?_); rintro e w' ⟨rfl, ⟨nd, rfl⟩⟩; (try first | exact qA | exact qB))
            | (go_at_call 97; (with_reducible refine (One_some (HB.out.below (by repeat (first | exact HBX.out | apply pw_below_drewN | refine below_set ?_ GE.out))) SO).mono ?_); rintro e w' ⟨rfl, ⟨nd, rfl⟩⟩; (try first | exact qA | exact qB))
          )
          go_roundw
          case rel => exact ⟨i + 1, by have := HLT.out; have := HLEN.out; go_num, by have := HLT.out; omega, HA, ⟨(by repeat (first | exact HBX.out | apply pw_below_drewN | refine below_set ?_ GE.out))⟩⟩
          case measure => have := HLT.out; have := HLEN.out; simp [intOf]; omega
      · have c3b0 : decide ((i : Int) < (l.length : Int)) = false := decide_eq_false (by omega)
        have c3b1 : decide (i < l.length) = false := decide_eq_false hlt
        have HR' : Aside0 (r = true) := ⟨by rw [← HF.out]; have := H1.out; rw [List.take_of_length_le (by omega)] at this; rw [this]; rfl⟩
        clear hlt hlen
        go_wp2
        go_ret
        exact ⟨by rw [HR'.out] <;> first | rfl | (simp; done), by repeat (first | exact below_step (below_step HW1.out HB2.out) HBW.out | apply pw_below_drewN)⟩
end Go.Proofs.Ythnpjjpdlihepaa.Given04
end
section
namespace Go.Proofs.Ythnpjjpdlihepaa.Given05
open Go Go.RowKit Go.Proofs.YthnpjjpdlihepaaW.PrintWords Go.Proofs.YthnpjjpdlihepaaW.PrintLast Go.Proofs.YthnpjjpdlihepaaW.PrintMore Go.Proofs.Ythnpjjpdlihepaa.Given Go.Proofs.Ythnpjjpdlihepaa.M Go.Proofs.Ythnpjjpdlihepaa.XS
def bad (p g : Int) (x : S65) : Bool := g ^ ((p - 1) / x.f0).toNat % p == 1
set_option maxHeartbeats 2000000 in
theorem clo_calls {Q E g p d v : Int} {k b c : Nat} {w : World} {r : Bool} (hb : w.heap[b]? = some (.cells #[.int .u64 g] 22 (0, 0))) (hc : w.heap[c]? = some (.cells #[.int .u64 p] 22 (0, 0)))
    (hp : IntKind.u64.wrap (p - 1) = p - 1) (hz1 : ¬ Q = 0) (hd : Int.tdiv (p - 1) Q = d) (hw : IntKind.u64.wrap d = d) (hk : modular_Pow.f k g d p = some v) (hr : (v == 1) = r) :
    Calls Try.prog 91 #[.agg #[.int .u64 Q, .int .i64 E], .pointer (some ⟨b, 0, none⟩), .pointer (some ⟨c, 0, none⟩)] w fun e w' => e = .returned (.bool r) ∧ Below w.heap.size w w' := by
  have c0 : w.cell? ⟨b, 0, none⟩ = some (.int .u64 g) := (blk_cell hb 0).trans rfl
  have c1 : w.cell? ⟨c, 0, none⟩ = some (.int .u64 p) := (blk_cell hc 0).trans rfl
  have f0 := blk_frozen hb 0
  have f1 := blk_frozen hc 0
  have lb := blk_lt hb
  have lc := blk_lt hc
  have HK := Aside0.mk hk
  clear hb hc hk
  go_enter Try.func91, Try.ntmps91
  go_wp2
  repeat (go_quiet (first | (go_at_call 92; (with_reducible refine (modular_Pow.calls k g d p v _ HK.out).mono ?_); rintro e w' ⟨rfl, ⟨nd, rfl⟩⟩; (try first | exact qA | exact qB))); try go_wp2_with (first | (go_at_call 92; (with_reducible refine (modular_Pow.calls k g d p v _ HK.out).mono ?_); rintro e w' ⟨rfl, ⟨nd, rfl⟩⟩; (try first | exact qA | exact qB))))
  go_ret
  exact ⟨by first | rfl | (simp; done), by repeat (first | exact Below.refl _ _ | apply below_alloc | apply pw_below_drewN)⟩
def okS (p g : Int) (l : List S65) : Prop := (3 ≤ p ∧ p < 9223372036854775808) ∧ U g ∧ ∀ x ∈ l, 1 ≤ x.f0 ∧ U x.f0
theorem clo_ok {E p g : Int} {x : S65} {l : List S65} {b c : Nat} {w : World} (ho : okS p g l) (hx : x ∈ l) (hb : w.heap[b]? = some (.cells #[.int .u64 g] 22 (0, 0))) (hc : w.heap[c]? = some (.cells #[.int .u64 p] 22 (0, 0))) :
    Calls Try.prog 91 #[.agg #[.int .u64 x.f0, .int .i64 E], .pointer (some ⟨b, 0, none⟩), .pointer (some ⟨c, 0, none⟩)] w fun e w' => e = .returned (.bool (bad p g x)) ∧ Below w.heap.size w w' := by
  obtain ⟨⟨p0, p1⟩, ug, hl⟩ := ho
  obtain ⟨x1, ux⟩ := hl x hx
  have h0 : 0 ≤ (p - 1) / x.f0 := Int.ediv_nonneg (by omega) (by omega)
  have h1 : (p - 1) / x.f0 ≤ p - 1 := Int.ediv_le_self _ (by omega)
  have ud : U ((p - 1) / x.f0) := by unfold U; omega
  have up : U p := by unfold U; omega
  obtain ⟨k, hk⟩ := Ev.rounds (modular_Pow_ev ug ud up (by omega))
  have hp : IntKind.u64.wrap (p - 1) = p - 1 := wu64_id _ (by omega) (by omega)
  have hd : Int.tdiv (p - 1) x.f0 = (p - 1) / x.f0 := tdiv_pos (by omega)
  exact clo_calls hb hc hp (by omega) hd (wu64_id _ ud.1 ud.2) hk rfl
theorem any_take (l : List S65) (f : S65 → Bool) (i : Nat) (h : i < l.length) : (l.take (i + 1)).any f = ((l.take i).any f || f (rd_T65 l (i : Int))) := by
  unfold rd_T65
  rw [List.take_succ_eq_append_getElem h, List.any_append]
  simp [List.getD, List.getElem?_eq_getElem h]
theorem any_of {l : List S65} {f : S65 → Bool} {i : Nat} (h : (l.take i).any f = true) : l.any f = true := by
  rw [List.any_eq_true] at *
  obtain ⟨x, hx, he⟩ := h
  exact ⟨x, List.mem_of_mem_take hx, he⟩
theorem rd_mem {l : List S65} {i : Nat} (h : i < l.length) : rd_T65 l (i : Int) ∈ l := by
  unfold rd_T65
  simp [List.getD, List.getElem?_eq_getElem h]
set_option maxHeartbeats 2000000 in
theorem index_calls {A0 : Option Addr} {c0 b c : Nat} {l : List S65} {p g : Int} {w : World} (hr0 : Kd.C k65 w A0 l.length l) (ho : okS p g l) (hb : w.heap[b]? = some (.cells #[.int .u64 g] 22 (0, 0))) (hc : w.heap[c]? = some (.cells #[.int .u64 p] 22 (0, 0))) :
    Calls Try.prog 99 #[.slice A0 l.length c0, .func (Fn.func 91) #[] #[.pointer (some ⟨b, 0, none⟩), .pointer (some ⟨c, 0, none⟩)]] w fun e w' => ∃ i : Int, e = .returned (.int .i64 i) ∧ decide (0 ≤ i) = l.any (bad p g) ∧ Below w.heap.size w w' := by
  have hlen : l.length ≤ 9223372036854775807 := hr0.2.1
  have HR0 := Aside0.mk hr0
  have HB0 := Aside0.mk hb
  have HC0 := Aside0.mk hc
  have HO := Aside0.mk ho
  have h0 : Aside0 ((l.take 0).any (bad p g) = false) := ⟨rfl⟩
  clear hr0 hb hc ho
  go_enter Try.func99, Try.ntmps99
  go_wp2
  go_loopw [8] (fun v8 w' => ∃ i : Nat, v8 = .int .i64 i ∧ i ≤ l.length ∧ Aside0 ((l.take i).any (bad p g) = false) ∧ Aside0 (Below w.heap.size w w')) (fun v8 _ => l.length - (intOf v8).toNat)
  case atStart => exact ⟨0, rfl, by omega, h0, ⟨Below.refl _ _⟩⟩
  case round =>
    clear h0
    obtain ⟨i, rfl, hi, H1, HB⟩ := hrel
    by_cases hlt : i < l.length
    · have c3b0 : decide ((i : Int) < (l.length : Int)) = true := decide_eq_true (by omega)
      have c3b1 : decide (i < l.length) = true := decide_eq_true hlt
      have p1 : 0 ≤ (i : Int) := by omega
      have q1 : (i : Int) < (l.length : Int) := by omega
      obtain ⟨ad, e1, hx0, hx1⟩ := at_T65 HR0.out i p1 q1
      cases e1
      replace hx0 := (HB.out.cell (World.block_lt_of_cell? w _ hx0)).trans hx0
      replace hx1 := (HB.out.cell (World.block_lt_of_cell? w _ hx1)).trans hx1
      simp only [Int.toNat_natCast] at hx0 hx1
      have HBG := Aside0.mk (blk_below HB0.out HB.out)
      have HBP := Aside0.mk (blk_below HC0.out HB.out)
      have hstep := any_take l (bad p g) i hlt
      have HX := Aside0.mk (rd_mem hlt)
      clear hlt
      cases hm : bad p g (rd_T65 l (i : Int)) with
      | true =>
        have HM := Aside0.mk hm
        have HF : Aside0 (l.any (bad p g) = true) := ⟨any_of (i := i + 1) (by rw [hstep, hm]; simp)⟩
        clear hm hstep
        go_wp2_with (go_at_call 91; (with_reducible refine (clo_ok HO.out HX.out HBG.out HBP.out).mono ?_); rw [HM.out]; rintro e w2 ⟨rfl, hb2⟩; have HB2 := Aside0.mk hb2; clear hb2)
        go_ret
        exact ⟨i, by first | rfl | (simp; done), by rw [HF.out]; exact decide_eq_true (by omega), below_step HB.out HB2.out⟩
      | false =>
        have HM := Aside0.mk hm
        have HF : Aside0 ((l.take (i + 1)).any (bad p g) = false) := ⟨by rw [hstep, hm, H1.out]; rfl⟩
        clear hm hstep
        go_wp2_with (go_at_call 91; (with_reducible refine (clo_ok HO.out HX.out HBG.out HBP.out).mono ?_); rw [HM.out]; rintro e w2 ⟨rfl, hb2⟩; have HB2 := Aside0.mk hb2; clear hb2)
        go_roundw
        case rel => exact ⟨i + 1, by go_num, by omega, HF, ⟨below_step HB.out HB2.out⟩⟩
        case measure => simp [intOf]; omega
    · have c3b0 : decide ((i : Int) < (l.length : Int)) = false := decide_eq_false (by omega)
      have c3b1 : decide (i < l.length) = false := decide_eq_false hlt
      have HF : Aside0 (l.any (bad p g) = false) := ⟨by have := H1.out; rwa [List.take_of_length_le (by omega)] at this⟩
      clear hlt
      go_wp2
      go_ret
      exact ⟨-1, by first | rfl | (simp; done), by rw [HF.out]; rfl, HB.out⟩
theorem contains_calls {A0 : Option Addr} {c0 b c : Nat} {l : List S65} {p g : Int} {r : Bool} {w : World} (hr0 : Kd.C k65 w A0 l.length l) (ho : okS p g l) (hb : w.heap[b]? = some (.cells #[.int .u64 g] 22 (0, 0))) (hc : w.heap[c]? = some (.cells #[.int .u64 p] 22 (0, 0))) (hr : Aside0 (l.any (bad p g) = r)) :
    Calls Try.prog 90 #[.slice A0 l.length c0, .func (Fn.func 91) #[] #[.pointer (some ⟨b, 0, none⟩), .pointer (some ⟨c, 0, none⟩)]] w fun e w' => e = .returned (.bool r) ∧ Below w.heap.size w w' := by
  have HR0 := Aside0.mk hr0
  have HB0 := Aside0.mk hb
  have HC0 := Aside0.mk hc
  have HO := Aside0.mk ho
  clear hr0 hb hc ho
  go_enter Try.func90, Try.ntmps90
  go_wp2_with (go_at_call 99; (with_reducible refine (index_calls HR0.out HO.out HB0.out HC0.out).mono ?_); rintro e w2 ⟨i, rfl, hd, hb2⟩; have HB2 := Aside0.mk hb2; have HD := Aside0.mk hd; clear hb2 hd)
  go_ret
  exact ⟨by rw [← hr.out, ← HD.out] <;> first | rfl | (simp; done), HB2.out⟩
end Go.Proofs.Ythnpjjpdlihepaa.Given05
end
section
namespace Go.Proofs.Ythnpjjpdlihepaa.Given05
open Go Go.RowKit Go.Proofs.YthnpjjpdlihepaaW.PrintWords Go.Proofs.YthnpjjpdlihepaaW.PrintLast Go.Proofs.YthnpjjpdlihepaaW.PrintMore Go.Proofs.Ythnpjjpdlihepaa.Given Go.Proofs.Ythnpjjpdlihepaa.M Go.Proofs.Ythnpjjpdlihepaa.XS
instance (p g : Int) (l : List S65) : Decidable (okS p g l) := by unfold okS U; infer_instance
def search (l : List S65) (p : Int) : Nat → Int → Option Int
  | 0, _ => none
  | k + 1, g => if okS p g l then (if l.any (bad p g) = true then search l p k (g + 1) else some g) else none
def sieve_Generator.f (k : Nat) (p : Int) : Option Int := (sieve_odd.f k p).bind fun t => if t = true then ((sieve_Factor.f k (IntKind.u64.wrap (p - 1))).bind fun l => search l p k 2) else some 0
theorem search_ok {l : List S65} {p g r : Int} {k : Nat} (h : search l p k g = some r) : okS p g l := by
  cases k with
  | zero => cases h
  | succ k =>
    unfold search at h
    split at h
    · assumption
    · cases h
set_option maxRecDepth 100000 in
set_option maxHeartbeats 4000000 in
theorem sieve_Generator.calls (k : Nat) (a0 : Int) (r : Int) (w : World) (h : sieve_Generator.f k a0 = some r) :
    Calls Try.prog 83 #[.int .u64 a0] w fun e w' => e = .returned (.int .u64 r) ∧ Below w.heap.size w w' := by
  unfold sieve_Generator.f at h
  obtain ⟨t, h1, h2⟩ := Option.bind_eq_some_iff.1 h
  have H1 := Aside0.mk h1
  clear h h1
  cases t with
  | false =>
    have HR : Aside0 (r = 0) := ⟨by rw [if_neg Bool.false_ne_true] at h2; exact (Option.some.inj h2).symm⟩
    clear h2
    go_enter Try.func83, Try.ntmps83
    go_wp2_with (go_at_call 71; (with_reducible refine (sieve_odd.calls k a0 false _ H1.out).mono ?_); rintro e w2 ⟨rfl, hb2⟩; have HB2 := Aside0.mk hb2; clear hb2)
    go_ret
    exact ⟨by rw [HR.out] <;> first | rfl | (simp; done), below_step (below_alloc (Below.refl _ _) _) HB2.out⟩
  | true =>
    rw [if_pos rfl] at h2
    obtain ⟨l, h3, h4⟩ := Option.bind_eq_some_iff.1 h2
    have H3 := Aside0.mk h3
    have H4 := Aside0.mk h4
    have HBP : Aside0 ((w.alloc (.cells #[.int .u64 a0] 22)).heap[w.heap.size]? = some (.cells #[.int .u64 a0] 22 (0, 0))) := ⟨blk_new _ _⟩
    clear h2 h3 h4
    go_enter Try.func83, Try.ntmps83
    go_wp2_with (first
      | (go_at_call 71; (with_reducible refine (sieve_odd.calls k a0 true _ H1.out).mono ?_); rintro e w2 ⟨rfl, hb2⟩; have HB2 := Aside0.mk hb2; have HP2 := Aside0.mk (blk_below HBP.out HB2.out); (have e2 : w2.cell? ⟨w.heap.size, 0, none⟩ = some (.int .u64 a0) := (blk_cell HP2.out 0).trans rfl); clear hb2)
      | (go_at_call 48; (with_reducible refine (sieve_Factor.calls k (IntKind.u64.wrap (a0 - 1)) l _ H3.out).mono ?_); rintro e w3 ⟨v, rfl, hv, hb3⟩; (obtain ⟨A, c, rfl⟩ := Kd.R_slice hv); have HV := Aside0.mk (Kd.R_reads' hv).2.2; have HB3 := Aside0.mk hb3; have HP3 := Aside0.mk (blk_below HP2.out HB3.out); clear hb3 hv)
      )
    have HG0 : Aside0 ((w3.alloc (.cells #[.int .u64 2] 22)).heap[w3.heap.size]? = some (.cells #[.int .u64 2] 22 (0, 0))) := ⟨blk_new _ _⟩
    clear e2
    go_loopg [13] k (fun kq _v13 wr => ∃ g : Int, Aside0 (search l a0 kq g = some r) ∧ Aside0 (kq ≤ k) ∧ Aside0 (wr.heap[w3.heap.size]? = some (.cells #[.int .u64 g] 22 (0, 0))) ∧ Aside0 (Below w3.heap.size w3 wr))
    case atStart => exact ⟨2, H4, ⟨Nat.le_refl _⟩, HG0, ⟨by repeat (first | exact Below.refl _ _ | apply below_alloc)⟩⟩
    case round =>
      clear H4 HG0
      obtain ⟨g, HA, HK1, HG, HB⟩ := hrel
      cases gk with
      | zero => exact absurd HA.out (by simp [search])
      | succ k1 =>
        have HC := Aside0.mk (Kd.C_below HV.out HB.out)
        have HP := Aside0.mk (blk_below HP3.out HB.out)
        have hA := HA.out
        clear HA
        unfold search at hA
        split at hA
        case isFalse => cases hA
        rename_i hok
        have HO := Aside0.mk hok
        have g0 : (wr.cell? ⟨w3.heap.size, 0, none⟩) = some (.int .u64 g) := (blk_cell HG.out 0).trans rfl
        have gf := blk_frozen HG.out 0
        cases hany : l.any (bad a0 g) with
        | true =>
          rw [hany, if_pos rfl] at hA
          have HA := Aside0.mk hA
          have HN := Aside0.mk hany
          have hw : IntKind.u64.wrap (g + 1) = g + 1 := by have u := (search_ok hA).2.1; exact wu64_id _ u.1 u.2
          clear hA hok hany
          go_wp2_with (go_at_call 90; (with_reducible refine (contains_calls HC.out HO.out HG.out HP.out HN).mono ?_); rintro e w5 ⟨rfl, hb5⟩; have HB5 := Aside0.mk hb5; have HG5 := Aside0.mk (blk_below HG.out hb5); (have g5 : w5.cell? ⟨w3.heap.size, 0, none⟩ = some (.int .u64 g) := (blk_cell HG5.out 0).trans rfl); have gf5 := blk_frozen HG5.out 0; clear hb5 g0 gf)
          go_roundg k1
          case measure => have := HK1.out; omega
          case rel => exact ⟨g + 1, HA, ⟨by have := HK1.out; omega⟩, ⟨by refine blk_put (cs := #[.int .u64 g]) ?_ 0 _ rfl; exact HG5.out⟩, ⟨below_set (below_step HB.out HB5.out) (Nat.le_refl _)⟩⟩
        | false =>
          rw [hany, if_neg Bool.false_ne_true] at hA
          obtain rfl := Option.some.inj hA
          have HN := Aside0.mk hany
          clear hA hok hany
          go_wp2_with (go_at_call 90; (with_reducible refine (contains_calls HC.out HO.out HG.out HP.out HN).mono ?_); rintro e w5 ⟨rfl, hb5⟩; have HB5 := Aside0.mk hb5; have HG5 := Aside0.mk (blk_below HG.out hb5); (have g5 : w5.cell? ⟨w3.heap.size, 0, none⟩ = some (.int .u64 g) := (blk_cell HG5.out 0).trans rfl); have gf5 := blk_frozen HG5.out 0; clear hb5 g0 gf)
          go_ret
          exact ⟨by first | rfl | (simp; done), below_step (below_step (below_step (below_alloc (Below.refl _ _) _) HB2.out) HB3.out) (below_step HB.out HB5.out)⟩
end Go.Proofs.Ythnpjjpdlihepaa.Given05
end
section
namespace Go.Proofs.Ythnpjjpdlihepaa.GivenS
open Go Go.RowKit Go.Proofs.YthnpjjpdlihepaaW.PrintWords Go.Proofs.YthnpjjpdlihepaaW.PrintLast Go.Proofs.YthnpjjpdlihepaaW.PrintMore
def bits_Len.f (a : Int) : Option Int := if 0 ≤ a ∧ a ≤ 18446744073709551615 then some (Lib.bitLen a.toNat : Int) else none
theorem bits_Len.calls (a0 r : Int) (w : World) (h : bits_Len.f a0 = some r) :
    Calls Try.prog 95 #[.int .u64 a0] w fun e w' => e = .returned (.int .i64 r) ∧ Drawn0 w w' := by
  unfold bits_Len.f at h
  by_cases h0 : 0 ≤ a0 ∧ a0 ≤ 18446744073709551615
  · rw [if_pos h0] at h
    obtain rfl := Option.some.inj h
    refine (Try.bits_Len a0 w h0.1 h0.2).mono ?_
    rintro e w' ⟨rfl, rfl⟩
    exact ⟨rfl, Drawn0.refl _⟩
  · rw [if_neg h0] at h; cases h
end Go.Proofs.Ythnpjjpdlihepaa.GivenS
end
