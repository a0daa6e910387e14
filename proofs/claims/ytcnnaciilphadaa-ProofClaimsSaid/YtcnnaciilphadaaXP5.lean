-- thinned
-- Printed by a program of this session (wip/tools/mkprint.py) out of the translation.
import Derived.Test.YtcnnaciilphadaaXP0
import Derived.Test.YtcnnaciilphadaaGiven
import Derived.Test.YtcnnaciilphadaaGiven04
namespace Go.Proofs.Ytcnnaciilphadaa.XP
open Go.RowKit Go.Proofs.Ytcnnaciilphadaa.Given Go.Proofs.Ytcnnaciilphadaa.Given04 Go.Proofs.YtcnnaciilphadaaW.PrintWords Go.Proofs.YtcnnaciilphadaaW.PrintLast Go.Proofs.YtcnnaciilphadaaW.PrintMore
attribute [local go_sem] max2_int min2_int max_two min_two max_three min_three max_four min_four   -- for this text's walks alone
set_option linter.unusedVariables false
set_option linter.unusedSimpArgs false

/-! ### epicycleref04_Product: function 52 -/
mutual
def epicycleref04_Product.l0 : Nat → Int → Int → List (S60) → Int → Int → Option (Int × Bool)
 | 0, _, _, _, _, _ => none
 | k + 1, x1, x6, x10, x11, x12 => if x12 < x11 then (if 0 ≤ x12 then (if x12 < (x10.length : Int) then (if ((rd_T60 x10 x12).f1) < 1 then (epicycleref04_Product.j1 k x1 x6 x10 x11 x12 true ((rd_T60 x10 x12).f0) ((rd_T60 x10 x12).f1)) else (if ((rd_T60 x10 x12).f1) > 62 then (epicycleref04_Product.j1 k x1 x6 x10 x11 x12 true ((rd_T60 x10 x12).f0) ((rd_T60 x10 x12).f1)) else (epicycleref04_Product.j1 k x1 x6 x10 x11 x12 (decide (((rd_T60 x10 x12).f0) < 2)) ((rd_T60 x10 x12).f0) ((rd_T60 x10 x12).f1)))) else (none)) else (none)) else (some (x6, true))
def epicycleref04_Product.j1 : Nat → Int → Int → List (S60) → Int → Int → Bool → Int → Int → Option (Int × Bool)
 | 0, _, _, _, _, _, _, _, _ => none
 | k + 1, x1, x6, x10, x11, x12, x28, x160000, x160001 => if x28 = true then (some (0, false)) else (epicycleref04_Product.l1 k x1 x6 0 x10 x11 x12 x160000 x160001)
def epicycleref04_Product.l1 : Nat → Int → Int → Int → List (S60) → Int → Int → Int → Int → Option (Int × Bool)
 | 0, _, _, _, _, _, _, _, _ => none
 | k + 1, x1, x6, x9, x10, x11, x12, x160000, x160001 => if x9 < x160001 then (if x160000 = 0 then (none) else (if x6 > (IntKind.u64.wrap (Int.tdiv x1 x160000)) then (some (0, false)) else (epicycleref04_Product.l1 k x1 (IntKind.u64.wrap (x6 * x160000)) (wrap64 (x9 + 1)) x10 x11 x12 x160000 x160001))) else (epicycleref04_Product.l0 k x1 x6 x10 x11 (wrap64 (x12 + 1)))
end
def epicycleref04_Product.f (k : Nat) (l0 : List (S60)) (a1 : Int) : Option (Int × Bool) := epicycleref04_Product.l0 k a1 1 l0 (l0.length : Int) 0
theorem epicycleref04_Product.mono_l : ∀ k, (∀ y0 y1 y2 y3 y4, LeO (epicycleref04_Product.l0 k y0 y1 y2 y3 y4) (epicycleref04_Product.l0 (k + 1) y0 y1 y2 y3 y4)) ∧ (∀ y0 y1 y2 y3 y4 y5 y6 y7, LeO (epicycleref04_Product.j1 k y0 y1 y2 y3 y4 y5 y6 y7) (epicycleref04_Product.j1 (k + 1) y0 y1 y2 y3 y4 y5 y6 y7)) ∧ (∀ y0 y1 y2 y3 y4 y5 y6 y7, LeO (epicycleref04_Product.l1 k y0 y1 y2 y3 y4 y5 y6 y7) (epicycleref04_Product.l1 (k + 1) y0 y1 y2 y3 y4 y5 y6 y7))
 | 0 => ⟨fun _ _ _ _ _ r h => by simp [epicycleref04_Product.l0] at h, fun _ _ _ _ _ _ _ _ r h => by simp [epicycleref04_Product.j1] at h, fun _ _ _ _ _ _ _ _ r h => by simp [epicycleref04_Product.l1] at h⟩
 | k + 1 => by
  obtain ⟨ih0, ih1, ih2⟩ := epicycleref04_Product.mono_l k
  refine ⟨?_, ?_, ?_⟩
  ·intro y0 y1 y2 y3 y4
   unfold epicycleref04_Product.l0
   repeat' first
   | (with_reducible exact ih0 _ _ _ _ _)
   | (with_reducible exact ih1 _ _ _ _ _ _ _ _)
   | (with_reducible exact ih2 _ _ _ _ _ _ _ _)
   | (with_reducible exact LeO.refl _)
   | (with_reducible exact LeO.none _)
   | (with_reducible refine LeO.ite ?_ ?_)
   | (with_reducible refine LeO.bind ?_ (fun _ => ?_))
   | exact ih0 _ _ _ _ _
   | exact ih1 _ _ _ _ _ _ _ _
   | exact ih2 _ _ _ _ _ _ _ _
   | exact LeO.none _
   | refine LeO.ite ?_ ?_
   | refine LeO.bind ?_ (fun _ => ?_)
  ·intro y0 y1 y2 y3 y4 y5 y6 y7
   unfold epicycleref04_Product.j1
   repeat' first
   | (with_reducible exact ih0 _ _ _ _ _)
   | (with_reducible exact ih1 _ _ _ _ _ _ _ _)
   | (with_reducible exact ih2 _ _ _ _ _ _ _ _)
   | (with_reducible exact LeO.refl _)
   | (with_reducible exact LeO.none _)
   | (with_reducible refine LeO.ite ?_ ?_)
   | (with_reducible refine LeO.bind ?_ (fun _ => ?_))
   | exact ih0 _ _ _ _ _
   | exact ih1 _ _ _ _ _ _ _ _
   | exact ih2 _ _ _ _ _ _ _ _
   | exact LeO.none _
   | refine LeO.ite ?_ ?_
   | refine LeO.bind ?_ (fun _ => ?_)
  ·intro y0 y1 y2 y3 y4 y5 y6 y7
   unfold epicycleref04_Product.l1
   repeat' first
   | (with_reducible exact ih0 _ _ _ _ _)
   | (with_reducible exact ih1 _ _ _ _ _ _ _ _)
   | (with_reducible exact ih2 _ _ _ _ _ _ _ _)
   | (with_reducible exact LeO.refl _)
   | (with_reducible exact LeO.none _)
   | (with_reducible refine LeO.ite ?_ ?_)
   | (with_reducible refine LeO.bind ?_ (fun _ => ?_))
   | exact ih0 _ _ _ _ _
   | exact ih1 _ _ _ _ _ _ _ _
   | exact ih2 _ _ _ _ _ _ _ _
   | exact LeO.none _
   | refine LeO.ite ?_ ?_
   | refine LeO.bind ?_ (fun _ => ?_)
theorem epicycleref04_Product.mono : ∀ a0 a1 k, LeO (epicycleref04_Product.f k a0 a1) (epicycleref04_Product.f (k + 1) a0 a1) := by
 intro a0 a1 k
 obtain ⟨ih0, ih1, ih2⟩ := epicycleref04_Product.mono_l k
 unfold epicycleref04_Product.f
 repeat' first
   | (with_reducible exact ih0 _ _ _ _ _)
   | (with_reducible exact ih1 _ _ _ _ _ _ _ _)
   | (with_reducible exact ih2 _ _ _ _ _ _ _ _)
   | (with_reducible exact LeO.refl _)
   | (with_reducible exact LeO.none _)
   | (with_reducible refine LeO.ite ?_ ?_)
   | (with_reducible refine LeO.bind ?_ (fun _ => ?_))
   | exact ih0 _ _ _ _ _
   | exact ih1 _ _ _ _ _ _ _ _
   | exact ih2 _ _ _ _ _ _ _ _
   | exact LeO.none _
   | refine LeO.ite ?_ ?_
   | refine LeO.bind ?_ (fun _ => ?_)
set_option maxHeartbeats 8000000 in
set_option maxRecDepth 100000 in
theorem epicycleref04_Product.calls (k : Nat) (A0 : Option Addr) (c0 : Nat) (l0 : List (S60)) (a1 : Int) (r1 : Int) (r2 : Bool) (w : World) (hr0 : Kd.C k60 w A0 l0.length l0) (hc0 : l0.length ≤ c0) (h : epicycleref04_Product.f k l0 a1 = some (r1, r2)) :
  Calls Try.prog 52 #[.slice A0 l0.length c0, .int .u64 a1] w fun e w' => e = .returned (.tuple #[.int .u64 r1, .bool r2]) ∧ Below w.heap.size w w' := by
 have hu60 := Try.underlying60
 have HR0 := Aside0.mk hr0
 have HC0 := Aside0.mk hc0
 clear hr0 hc0
 have HB := Aside0.mk (Below.refl w.heap.size w)
 have H : (epicycleref04_Product.l0 k a1 1 l0 (l0.length : Int) 0) = some (r1, r2) := h
 clear h
 have H' := Aside0.mk H
 clear H
 go_enter Try.func52, Try.ntmps52
 go_wp2
 go_loopg [6, 12] k (fun kq v6 v12 w' => ∃ (x6_1 : Int) (x12_1 : Int), v6 = .int .u64 x6_1 ∧ v12 = .int .i64 x12_1 ∧ Aside0 (epicycleref04_Product.l0 kq a1 x6_1 l0 (l0.length : Int) x12_1 = some (r1, r2)) ∧ Aside0 (kq ≤ k) ∧ Aside0 (Below w.heap.size w w'))
 case atStart => exact ⟨(1), (0), (by first | rfl | (simp; done) | (simp [*]; done)), (by first | rfl | (simp; done) | (simp [*]; done)), H', ⟨Nat.le_refl _⟩, ⟨by repeat (first | (with_reducible first | exact HB.out | apply below_alloc | apply pw_below_drewN | apply below_drew1) | exact HB.out)⟩⟩
 case round =>
  clear H'
  try clear p2
  obtain ⟨x6_1, x12_1, rfl, rfl, HA, HK1, HB⟩ := hrel
  cases gk with
  | zero => exact absurd HA.out (by simp [epicycleref04_Product.l0])
  | succ k1 =>
   have H := HA.out
   clear HA
   simp only [epicycleref04_Product.l0] at H
   by_cases c3 : x12_1 < (l0.length : Int)
   ·rw [if_pos c3] at H
    have c3b0 : decide (x12_1 < (l0.length : Int)) = true := decide_eq_true c3
    clear c3
    by_cases c4 : 0 ≤ x12_1
    ·rw [if_pos c4] at H
     have c4b0 : decide (0 ≤ x12_1) = true := decide_eq_true c4
     clear c4
     by_cases c5 : x12_1 < (l0.length : Int)
     ·rw [if_pos c5] at H
      have c5b0 : decide (x12_1 < (l0.length : Int)) = true := decide_eq_true c5
      clear c5
      have HC6 := Aside0.mk H
      clear H
      have p158 : 0 ≤ (x12_1 : Int) := of_decide_eq_true (by first | (with_reducible assumption) | assumption)
      have q158 : x12_1 < (l0.length : Int) := of_decide_eq_true (by first | (with_reducible assumption) | assumption)
      obtain ⟨ad158, e158, hx158_0, hx158_1⟩ := at_T60 HR0.out x12_1 p158 q158
      cases e158
      replace hx158_0 := (HB.out.cell (World.block_lt_of_cell? w _ hx158_0)).trans hx158_0
      replace hx158_1 := (HB.out.cell (World.block_lt_of_cell? w _ hx158_1)).trans hx158_1
      replace p158 := eq_true p158
      replace q158 := eq_true q158
      go_upto_region 5 with (first | ((with_reducible refine gate_dst (N := 8) rfl ?_); refine box_event ?hg (N := 8) ?hd (cs := #[.int .u64 0, .int .i64 0]) (t := 60) ?hr ?_; (case hd => rfl); (case hg => rfl); (case hr => first | (go_simp; done) | (go_simp; rfl)); intro gb159 hg w7 hbox hb; have n0_ := Aside0.mk (below_step (by repeat (first | (with_reducible first | exact HB.out | apply below_alloc | apply pw_below_drewN | apply below_drew1) | exact HB.out)) hb); have n1_ := Aside0.mk (hbox); have n2_ := Aside0.mk ((by rw [hg]; exact (below_size (by repeat (first | (with_reducible first | exact HB.out | apply below_alloc | apply pw_below_drewN | apply below_drew1) | exact HB.out))) : w.heap.size ≤ gb159)); have n3_ := Aside0.mk ((by rw [hg]; exact (below_size (by repeat (first | (with_reducible first | exact HB.out | apply below_alloc | apply pw_below_drewN | apply below_drew1) | exact HB.out))) : w.heap.size ≤ gb159)); clear HB; have HB := n0_; have BK159 := n1_; have GW159 := n2_; have GE159 := n3_; clear n0_ n1_ n2_ n3_; clear hb hbox hg; have hcz8_0 : w7.cell? ⟨gb159, 0, none⟩ = some (.int .u64 0) := (blk_cell BK159.out 0).trans rfl; have hcz8_1 : w7.cell? ⟨gb159, 1, none⟩ = some (.int .i64 0) := (blk_cell BK159.out 1).trans rfl; have hfz8_0 := blk_frozen BK159.out 0; have hfz8_1 := blk_frozen BK159.out 1))
      (try simp only [Act.put, List.setIfInBounds_toArray, List.set_cons_zero, List.set_cons_succ])
      go_cut [28] (fun v28 wc => ∃ (kq : Nat) (x28_5 : Bool), v28 = .bool x28_5 ∧ Aside0 (epicycleref04_Product.j1 kq a1 x6_1 l0 (l0.length : Int) x12_1 x28_5 ((rd_T60 l0 x12_1).f0) ((rd_T60 l0 x12_1).f1) = some (r1, r2)) ∧ Aside0 (kq ≤ k1) ∧ Aside0 (wc.heap[gb159]? = some (.cells #[.int .u64 ((rd_T60 l0 x12_1).f0), .int .i64 ((rd_T60 l0 x12_1).f1)] 60 (0, 0))) ∧ Aside0 (Below w.heap.size w wc))
      case first =>
       have H := HC6.out
       clear HC6
       by_cases c9 : ((rd_T60 l0 x12_1).f1) < 1
       ·rw [if_pos c9] at H
        have c9b0 : decide (((rd_T60 l0 x12_1).f1) < 1) = true := decide_eq_true c9
        clear c9
        (first | rw [c9b0] | (simp only [i64_w, i32_w]; rw [c9b0]) | skip)
        have H' := Aside0.mk H
        clear H
        have hcz10_0 : w7.cell? ⟨gb159, 0, none⟩ = some (.int .u64 0) := (blk_cell BK159.out 0).trans rfl
        have hcz10_1 : w7.cell? ⟨gb159, 1, none⟩ = some (.int .i64 0) := (blk_cell BK159.out 1).trans rfl
        have hfz10_0 := blk_frozen BK159.out 0
        have hfz10_1 := blk_frozen BK159.out 1
        go_wp2
        go_meet
        case rel => exact ⟨_, (true), (by first | rfl | (simp; done) | (simp [*]; done)), H', ⟨by have := HK1.out; first | omega | exact Nat.le_refl _⟩, ⟨by (with_reducible repeat (first | refine blk_drewN ?_ _ | refine blk_drew ?_ | refine blk_alloc ?_ _)); refine blk_put (cs := #[.int .u64 ((rd_T60 l0 x12_1).f0), .int .i64 0]) ?_ 1 _ rfl; (with_reducible repeat (first | refine blk_drewN ?_ _ | refine blk_drew ?_ | refine blk_alloc ?_ _)); refine blk_put (cs := #[.int .u64 0, .int .i64 0]) ?_ 0 _ rfl; (with_reducible repeat (first | refine blk_drewN ?_ _ | refine blk_drew ?_ | refine blk_alloc ?_ _)); exact BK159.out⟩, ⟨by repeat (first | (with_reducible first | exact HB.out | apply below_alloc | apply pw_below_drewN | apply below_drew1 | refine below_set ?_ GE159.out) | exact HB.out)⟩⟩
       ·rw [if_neg c9] at H
        have c9b0 : decide (((rd_T60 l0 x12_1).f1) < 1) = false := decide_eq_false c9
        clear c9
        (first | rw [c9b0] | (simp only [i64_w, i32_w]; rw [c9b0]) | skip)
        by_cases c11 : ((rd_T60 l0 x12_1).f1) > 62
        ·rw [if_pos c11] at H
         have c11b0 : decide (62 < ((rd_T60 l0 x12_1).f1)) = true := decide_eq_true c11
         clear c11
         have H' := Aside0.mk H
         clear H
         have hcz12_0 : w7.cell? ⟨gb159, 0, none⟩ = some (.int .u64 0) := (blk_cell BK159.out 0).trans rfl
         have hcz12_1 : w7.cell? ⟨gb159, 1, none⟩ = some (.int .i64 0) := (blk_cell BK159.out 1).trans rfl
         have hfz12_0 := blk_frozen BK159.out 0
         have hfz12_1 := blk_frozen BK159.out 1
         go_wp2
         go_meet
         case rel => exact ⟨_, (true), (by first | rfl | (simp; done) | (simp [*]; done)), H', ⟨by have := HK1.out; first | omega | exact Nat.le_refl _⟩, ⟨by (with_reducible repeat (first | refine blk_drewN ?_ _ | refine blk_drew ?_ | refine blk_alloc ?_ _)); refine blk_put (cs := #[.int .u64 ((rd_T60 l0 x12_1).f0), .int .i64 0]) ?_ 1 _ rfl; (with_reducible repeat (first | refine blk_drewN ?_ _ | refine blk_drew ?_ | refine blk_alloc ?_ _)); refine blk_put (cs := #[.int .u64 0, .int .i64 0]) ?_ 0 _ rfl; (with_reducible repeat (first | refine blk_drewN ?_ _ | refine blk_drew ?_ | refine blk_alloc ?_ _)); exact BK159.out⟩, ⟨by repeat (first | (with_reducible first | exact HB.out | apply below_alloc | apply pw_below_drewN | apply below_drew1 | refine below_set ?_ GE159.out) | exact HB.out)⟩⟩
        ·rw [if_neg c11] at H
         have c11b0 : decide (62 < ((rd_T60 l0 x12_1).f1)) = false := decide_eq_false c11
         clear c11
         have H' := Aside0.mk H
         clear H
         have hcz13_0 : w7.cell? ⟨gb159, 0, none⟩ = some (.int .u64 0) := (blk_cell BK159.out 0).trans rfl
         have hcz13_1 : w7.cell? ⟨gb159, 1, none⟩ = some (.int .i64 0) := (blk_cell BK159.out 1).trans rfl
         have hfz13_0 := blk_frozen BK159.out 0
         have hfz13_1 := blk_frozen BK159.out 1
         go_wp2
         go_meet
         case rel => exact ⟨_, (decide (((rd_T60 l0 x12_1).f0) < 2)), (by first | rfl | (simp; done) | (simp [*]; done)), H', ⟨by have := HK1.out; first | omega | exact Nat.le_refl _⟩, ⟨by (with_reducible repeat (first | refine blk_drewN ?_ _ | refine blk_drew ?_ | refine blk_alloc ?_ _)); refine blk_put (cs := #[.int .u64 ((rd_T60 l0 x12_1).f0), .int .i64 0]) ?_ 1 _ rfl; (with_reducible repeat (first | refine blk_drewN ?_ _ | refine blk_drew ?_ | refine blk_alloc ?_ _)); refine blk_put (cs := #[.int .u64 0, .int .i64 0]) ?_ 0 _ rfl; (with_reducible repeat (first | refine blk_drewN ?_ _ | refine blk_drew ?_ | refine blk_alloc ?_ _)); exact BK159.out⟩, ⟨by repeat (first | (with_reducible first | exact HB.out | apply below_alloc | apply pw_below_drewN | apply below_drew1 | refine below_set ?_ GE159.out) | exact HB.out)⟩⟩
      case rest =>
       clear HC6
       try clear c1
       try clear p1
       try clear q1
       try clear hx1
       try clear p2
       try clear c3
       try clear c3b0
       try clear c4
       try clear c4b0
       try clear c5
       try clear c5b0
       try clear c9
       try clear c9b0
       try clear c11
       try clear c11b0
       try clear hcz10_0
       try clear hcz10_1
       try clear hcz12_0
       try clear hcz12_1
       try clear hcz13_0
       try clear hcz13_1
       try clear hcz8_0
       try clear hcz8_1
       try clear hfz10_0
       try clear hfz10_1
       try clear hfz12_0
       try clear hfz12_1
       try clear hfz13_0
       try clear hfz13_1
       try clear hfz8_0
       try clear hfz8_1
       try clear hx158_0
       try clear hx158_1
       try clear p158
       try clear p2
       try clear q158
       obtain ⟨kq, x28_5, rfl, HA, HJ5, BK159, HB⟩ := hcut
       cases kq with
       | zero => exact absurd HA.out (by simp [epicycleref04_Product.j1])
       | succ kj5 =>
        have H := HA.out
        clear HA
        simp only [epicycleref04_Product.j1] at H
        by_cases c14 : x28_5 = true
        ·subst c14
         have H1 : (some (0, false)) = some (r1, r2) := by rw [if_pos rfl] at H <;> exact H
         clear H
         have H := H1
         clear H1
         simp only [Option.some.injEq, Prod.mk.injEq] at H
         obtain ⟨rfl, rfl⟩ := H
         go_wp2
         go_ret2
         exact ⟨by first | rfl | (simp [errW_none, errW_some] <;> rfl) | (simp [*, errW_none, errW_some] <;> rfl), by repeat (first | (with_reducible first | exact HB.out | apply below_alloc | apply pw_below_drewN | apply below_drew1 | refine below_set ?_ GE159.out) | exact HB.out)⟩
        ·replace c14 := Bool.eq_false_iff.mpr c14
         subst c14
         have H1 : (epicycleref04_Product.l1 kj5 a1 x6_1 0 l0 (l0.length : Int) x12_1 ((rd_T60 l0 x12_1).f0) ((rd_T60 l0 x12_1).f1)) = some (r1, r2) := by rw [if_neg (show ¬ (false = true) by decide)] at H <;> exact H
         clear H
         have H := H1
         clear H1
         have H' := Aside0.mk H
         clear H
         go_wp2
         go_loopg [6, 9] kj5 (fun kq v6 v9 w' => ∃ (x6_3 : Int) (x9_3 : Int), v6 = .int .u64 x6_3 ∧ v9 = .int .i64 x9_3 ∧ Aside0 (epicycleref04_Product.l1 kq a1 x6_3 x9_3 l0 (l0.length : Int) x12_1 ((rd_T60 l0 x12_1).f0) ((rd_T60 l0 x12_1).f1) = some (r1, r2)) ∧ Aside0 (kq ≤ kj5) ∧ Aside0 (w'.heap[gb159]? = some (.cells #[.int .u64 ((rd_T60 l0 x12_1).f0), .int .i64 ((rd_T60 l0 x12_1).f1)] 60 (0, 0))) ∧ Aside0 (Below w.heap.size w w'))
         case atStart => exact ⟨(x6_1), (0), (by first | rfl | (simp; done) | (simp [*]; done)), (by first | rfl | (simp; done) | (simp [*]; done)), H', ⟨Nat.le_refl _⟩, ⟨by (with_reducible repeat (first | refine blk_drewN ?_ _ | refine blk_drew ?_ | refine blk_alloc ?_ _)); exact BK159.out⟩, ⟨by repeat (first | (with_reducible first | exact HB.out | apply below_alloc | apply pw_below_drewN | apply below_drew1 | refine below_set ?_ GE159.out) | exact HB.out)⟩⟩
         case round =>
          clear H'
          try clear c1
          try clear p1
          try clear q1
          try clear hx1
          try clear p2
          try clear c3
          try clear c3b0
          try clear c4
          try clear c4b0
          try clear c5
          try clear c5b0
          try clear c9
          try clear c9b0
          try clear c11
          try clear c11b0
          try clear c14
          try clear hcz10_0
          try clear hcz10_1
          try clear hcz12_0
          try clear hcz12_1
          try clear hcz13_0
          try clear hcz13_1
          try clear hcz8_0
          try clear hcz8_1
          try clear hfz10_0
          try clear hfz10_1
          try clear hfz12_0
          try clear hfz12_1
          try clear hfz13_0
          try clear hfz13_1
          try clear hfz8_0
          try clear hfz8_1
          try clear hx158_0
          try clear hx158_1
          try clear p1
          try clear p158
          try clear p2
          try clear q1
          try clear q158
          obtain ⟨x6_3, x9_3, rfl, rfl, HA, HK3, BK159, HB⟩ := hrel
          cases gk with
          | zero => exact absurd HA.out (by simp [epicycleref04_Product.l1])
          | succ k3 =>
           have H := HA.out
           clear HA
           simp only [epicycleref04_Product.l1] at H
           by_cases c15 : x9_3 < ((rd_T60 l0 x12_1).f1)
           ·rw [if_pos c15] at H
            have c15b0 : decide (x9_3 < ((rd_T60 l0 x12_1).f1)) = true := decide_eq_true c15
            clear c15
            by_cases c16 : ((rd_T60 l0 x12_1).f0) = 0
            ·rw [if_pos c16] at H
             exact absurd H (by simp)
            ·rw [if_neg c16] at H
             have c16b0 : (((rd_T60 l0 x12_1).f0) == 0) = false := beq_eq_false_iff_ne.mpr c16
             have c16b1 : (((rd_T60 l0 x12_1).f0) != 0) = true := bne_iff_ne.mpr c16
             by_cases c17 : x6_3 > (IntKind.u64.wrap (Int.tdiv a1 ((rd_T60 l0 x12_1).f0)))
             ·rw [if_pos c17] at H
              have c17b0 : decide ((IntKind.u64.wrap (Int.tdiv a1 ((rd_T60 l0 x12_1).f0))) < x6_3) = true := decide_eq_true c17
              clear c17
              simp only [Option.some.injEq, Prod.mk.injEq] at H
              obtain ⟨rfl, rfl⟩ := H
              have hcz18_0 : wr.cell? ⟨gb159, 0, none⟩ = some (.int .u64 ((rd_T60 l0 x12_1).f0)) := (blk_cell BK159.out 0).trans rfl
              have hcz18_1 : wr.cell? ⟨gb159, 1, none⟩ = some (.int .i64 ((rd_T60 l0 x12_1).f1)) := (blk_cell BK159.out 1).trans rfl
              have hfz18_0 := blk_frozen BK159.out 0
              have hfz18_1 := blk_frozen BK159.out 1
              go_wp2
              go_ret2
              exact ⟨by first | rfl | (simp [errW_none, errW_some] <;> rfl) | (simp [*, errW_none, errW_some] <;> rfl), by repeat (first | (with_reducible first | exact HB.out | apply below_alloc | apply pw_below_drewN | apply below_drew1 | refine below_set ?_ GE159.out) | exact HB.out)⟩
             ·rw [if_neg c17] at H
              have c17b0 : decide ((IntKind.u64.wrap (Int.tdiv a1 ((rd_T60 l0 x12_1).f0))) < x6_3) = false := decide_eq_false c17
              clear c17
              have H' := Aside0.mk H
              clear H
              have hcz19_0 : wr.cell? ⟨gb159, 0, none⟩ = some (.int .u64 ((rd_T60 l0 x12_1).f0)) := (blk_cell BK159.out 0).trans rfl
              have hcz19_1 : wr.cell? ⟨gb159, 1, none⟩ = some (.int .i64 ((rd_T60 l0 x12_1).f1)) := (blk_cell BK159.out 1).trans rfl
              have hfz19_0 := blk_frozen BK159.out 0
              have hfz19_1 := blk_frozen BK159.out 1
              go_wp2
              go_roundg k3
              case measure => have := HK1.out; have := HJ5.out; have := HK3.out; omega
              case rel => exact ⟨(IntKind.u64.wrap (x6_3 * ((rd_T60 l0 x12_1).f0))), (wrap64 (x9_3 + 1)), (by first | rfl | (simp; done) | (simp [*]; done)), (by first | rfl | (simp; done) | (simp [*]; done)), H', ⟨by have := HK1.out; have := HJ5.out; have := HK3.out; omega⟩, ⟨by (with_reducible repeat (first | refine blk_drewN ?_ _ | refine blk_drew ?_ | refine blk_alloc ?_ _)); exact BK159.out⟩, ⟨by repeat (first | (with_reducible first | exact HB.out | apply below_alloc | apply pw_below_drewN | apply below_drew1 | refine below_set ?_ GE159.out) | exact HB.out)⟩⟩
           ·rw [if_neg c15] at H
            have c15b0 : decide (x9_3 < ((rd_T60 l0 x12_1).f1)) = false := decide_eq_false c15
            clear c15
            have H' := Aside0.mk H
            clear H
            have hcz20_0 : wr.cell? ⟨gb159, 0, none⟩ = some (.int .u64 ((rd_T60 l0 x12_1).f0)) := (blk_cell BK159.out 0).trans rfl
            have hcz20_1 : wr.cell? ⟨gb159, 1, none⟩ = some (.int .i64 ((rd_T60 l0 x12_1).f1)) := (blk_cell BK159.out 1).trans rfl
            have hfz20_0 := blk_frozen BK159.out 0
            have hfz20_1 := blk_frozen BK159.out 1
            go_wp2
            go_roundg k3
            case measure => have := HK1.out; have := HJ5.out; have := HK3.out; omega
            case rel => exact ⟨(x6_3), (wrap64 (x12_1 + 1)), (by first | rfl | (simp; done) | (simp [*]; done)), (by first | rfl | (simp; done) | (simp [*]; done)), H', ⟨by have := HK1.out; have := HJ5.out; have := HK3.out; omega⟩, ⟨by repeat (first | (with_reducible first | exact HB.out | apply below_alloc | apply pw_below_drewN | apply below_drew1 | refine below_set ?_ GE159.out) | exact HB.out)⟩⟩
     ·rw [if_neg c5] at H
      exact absurd H (by simp)
    ·rw [if_neg c4] at H
     exact absurd H (by simp)
   ·rw [if_neg c3] at H
    have c3b0 : decide (x12_1 < (l0.length : Int)) = false := decide_eq_false c3
    clear c3
    simp only [Option.some.injEq, Prod.mk.injEq] at H
    obtain ⟨rfl, rfl⟩ := H
    go_wp2
    go_ret2
    exact ⟨by first | rfl | (simp [errW_none, errW_some] <;> rfl) | (simp [*, errW_none, errW_some] <;> rfl), by repeat (first | (with_reducible first | exact HB.out | apply below_alloc | apply pw_below_drewN | apply below_drew1) | exact HB.out)⟩

end Go.Proofs.Ytcnnaciilphadaa.XP
