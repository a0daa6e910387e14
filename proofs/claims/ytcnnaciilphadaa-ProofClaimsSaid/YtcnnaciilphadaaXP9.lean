-- thinned
-- Printed by a program of this session (wip/tools/mkprint.py) out of the translation.
import Derived.Test.YtcnnaciilphadaaXP0
import Derived.Test.YtcnnaciilphadaaXP3
import Derived.Test.YtcnnaciilphadaaGiven
import Derived.Test.YtcnnaciilphadaaClone04
namespace Go.Proofs.Ytcnnaciilphadaa.XP
open Go.RowKit Go.Proofs.Ytcnnaciilphadaa.Given Go.Proofs.Ytcnnaciilphadaa.Given04 Go.Proofs.YtcnnaciilphadaaW.PrintWords Go.Proofs.YtcnnaciilphadaaW.PrintLast Go.Proofs.YtcnnaciilphadaaW.PrintMore
attribute [local go_sem] max2_int min2_int max_two min_two max_three min_three max_four min_four   -- for this text's walks alone
set_option linter.unusedVariables false
set_option linter.unusedSimpArgs false

/-! ### proof_Claim: function 38 -/
def proof_Claim.l0 : Nat → Int → List (S54) → Int → Int → Option (Int × Int × (List (S59)) × Bool)
 | 0, _, _, _, _ => none
 | k + 1, x1, x18, x19, x20 => if x20 < x19 then (if 0 ≤ x20 then (if x20 < (x18.length : Int) then (if ((rd_T54 x18 x20).f0) = x1 then ((proof_Power.f ((rd_T54 x18 x20).f2)).bind fun t240 => (some ((rd_T54 x18 x20).f0, (rd_T54 x18 x20).f1, t240, true))) else (proof_Claim.l0 k x1 x18 x19 (wrap64 (x20 + 1)))) else (none)) else (none)) else (some (0, 0, ([] : List (S59)), false))
def proof_Claim.f (k : Nat) (l0 : List (S54)) (a1 : Int) : Option (Int × Int × (List (S59)) × Bool) := (proof_Check.f k l0).bind fun bt236 => (if bt236.2 = 0 then (proof_Claim.l0 k a1 l0 (l0.length : Int) 0) else (some (0, 0, ([] : List (S59)), false)))
theorem proof_Claim.mono_l : ∀ k, (∀ y0 y1 y2 y3, LeO (proof_Claim.l0 k y0 y1 y2 y3) (proof_Claim.l0 (k + 1) y0 y1 y2 y3))
 | 0 => fun _ _ _ _ r h => by simp [proof_Claim.l0] at h
 | k + 1 => by
  have ih0 := proof_Claim.mono_l k
  ·intro y0 y1 y2 y3
   unfold proof_Claim.l0
   repeat' first
   | (with_reducible exact ih0 _ _ _ _)
   | (with_reducible exact proof_Check.mono _ _)
   | (with_reducible exact LeO.refl _)
   | (with_reducible exact LeO.none _)
   | (with_reducible refine LeO.ite ?_ ?_)
   | (with_reducible refine LeO.bind ?_ (fun _ => ?_))
   | exact ih0 _ _ _ _
   | exact proof_Check.mono _ _
   | exact LeO.none _
   | refine LeO.ite ?_ ?_
   | refine LeO.bind ?_ (fun _ => ?_)
theorem proof_Claim.mono : ∀ a0 a1 k, LeO (proof_Claim.f k a0 a1) (proof_Claim.f (k + 1) a0 a1) := by
 intro a0 a1 k
 have ih0 := proof_Claim.mono_l k
 unfold proof_Claim.f
 repeat' first
   | (with_reducible exact ih0 _ _ _ _)
   | (with_reducible exact proof_Check.mono _ _)
   | (with_reducible exact LeO.refl _)
   | (with_reducible exact LeO.none _)
   | (with_reducible refine LeO.ite ?_ ?_)
   | (with_reducible refine LeO.bind ?_ (fun _ => ?_))
   | exact ih0 _ _ _ _
   | exact proof_Check.mono _ _
   | exact LeO.none _
   | refine LeO.ite ?_ ?_
   | refine LeO.bind ?_ (fun _ => ?_)
def proof_Claim.T8 : Bool × List (List Nat × List Nat) := (true, [([], []), ([0], [0]), ([], []), ([2], [2]), ([], []), ([4], [4]), ([5], [5]), ([1, 3, 6], [1, 3, 6]), ([7, 6, 0, 1, 2, 3, 4, 5, 6, 7], [7]), ([8, 0, 1, 2, 3, 4, 5, 6, 7, 8], [])])
def proof_Claim.B8 : List Nat := [0, 1, 0, 4, 0, 16, 48, 127, 255, 511]
theorem proof_Claim.tab8 : rtab .any (opsOf Try.f38 8) = proof_Claim.T8 := by kernel_rfl
theorem proof_Claim.bits8 : waitsOk proof_Claim.T8.2 proof_Claim.B8 = true := by kernel_rfl
set_option maxHeartbeats 8000000 in
set_option maxRecDepth 100000 in
theorem proof_Claim.calls (k : Nat) (A0 : Option Addr) (c0 : Nat) (l0 : List (S54)) (a1 : Int) (r1 : Int) (r2 : Int) (r3 : List (S59)) (r4 : Bool) (w : World) (hr0 : Kd.C k54 w A0 l0.length l0) (hc0 : l0.length ≤ c0) (h : proof_Claim.f k l0 a1 = some (r1, r2, r3, r4)) :
  Calls Try.prog 38 #[.slice A0 l0.length c0, .int .u64 a1] w fun e w' => ∃ v2_ : Value, e = .returned (.tuple #[.agg #[.int .u64 r1, .int .u64 r2, v2_], .bool r4]) ∧ Kd.R k59 59 w' w.heap.size (fun _ => True) v2_ r3 ∧ Below w.heap.size w w' := by
 have hu54 := Try.underlying54
 have HR0 := Aside0.mk hr0
 have HC0 := Aside0.mk hc0
 clear hr0 hc0
 have HB := Aside0.mk (Below.refl w.heap.size w)
 have H : ((proof_Check.f k l0).bind fun bt236 => (if bt236.2 = 0 then (proof_Claim.l0 k a1 l0 (l0.length : Int) 0) else (some (0, 0, ([] : List (S59)), false)))) = some (r1, r2, r3, r4) := h
 clear h
 replace H := Option.bind_eq_some_iff.mp H
 obtain ⟨⟨t236, t237⟩, A30, H⟩ := H
 replace H : (if t237 = 0 then (proof_Claim.l0 k a1 l0 (l0.length : Int) 0) else (some (0, 0, ([] : List (S59)), false))) = some (r1, r2, r3, r4) := H
 have A3 := Aside0.mk A30
 clear A30
 by_cases c4 : t237 = 0
 ·rw [if_pos c4] at H
  have c4b0 : (t237 == 0) = true := beq_iff_eq.mpr c4
  have c4b1 : (t237 != 0) = false := bne_eq_false_iff_eq.mpr c4
  clear c4
  have H' := Aside0.mk H
  clear H
  go_enter Try.func38, Try.ntmps38
  go_wp2_with (first | ((with_reducible refine gate_dst (N := 4) rfl ?_); refine box_event ?hg (N := 4) ?hd (cs := #[.int .u64 0, .int .u64 0, .slice none 0 0]) (t := 54) ?hr ?_; (case hd => rfl); (case hg => rfl); (case hr => first | (go_simp; done) | (go_simp; rfl)); intro gb235 hg w5 hbox hb; have n0_ := Aside0.mk (below_step (by repeat (first | (with_reducible first | exact HB.out | apply below_alloc | apply pw_below_drewN | apply below_drew1) | exact HB.out)) hb); have n1_ := Aside0.mk (hbox); have n2_ := Aside0.mk ((by rw [hg]; exact (below_size (by repeat (first | (with_reducible first | exact HB.out | apply below_alloc | apply pw_below_drewN | apply below_drew1) | exact HB.out))) : w.heap.size ≤ gb235)); have n3_ := Aside0.mk ((by rw [hg]; exact (below_size (by repeat (first | (with_reducible first | exact HB.out | apply below_alloc | apply pw_below_drewN | apply below_drew1) | exact HB.out))) : w.heap.size ≤ gb235)); clear HB; have HB := n0_; have BK235 := n1_; have GW235 := n2_; have GE235 := n3_; clear n0_ n1_ n2_ n3_; clear hb hbox hg) | ((with_reducible refine gate_callee (f := 34) rfl ?_); refine goesL_ (some 12) rfl rfl Try.func34 (by kernel_rfl) rfl #[.slice A0 l0.length c0] rfl (by (try simp only [List.map_toArray, List.map_cons, List.map_nil]); first | done | rfl | (simp only [List.length_drop, List.length_take]; rfl)) ?_; (with_reducible refine (proof_Check.calls k _ _ l0 t236 t237 _ ?side1 ?side2 A3.out).mono ?_); (case side1 => repeat (first | exact (Kd.C_below HR0.out HB.out) | (with_reducible refine Kd.C_alloc ?_ _) | (with_reducible refine Kd.C_drewN ?_ _) | (with_reducible refine Kd.C_drew ?_))); (case side2 => exact HC0.out); rintro e w6 ⟨rfl, hb⟩; refine ⟨_, rfl, ?_⟩; have n0_ := Aside0.mk (blk_below (g := gb235) (o := .cells #[.int .u64 0, .int .u64 0, .slice none 0 0] 54 (0, 0)) (by (with_reducible repeat (first | refine blk_drewN ?_ _ | refine blk_drew ?_ | refine blk_alloc ?_ _)); exact BK235.out) hb); have n1_ := Aside0.mk (below_step (by repeat (first | (with_reducible first | exact HB.out | apply below_alloc | apply pw_below_drewN | apply below_drew1 | refine below_set ?_ GE235.out) | exact HB.out)) hb); clear BK235; clear HB; have BK235 := n0_; have HB := n1_; clear n0_ n1_; (try clear hb); (try clear hb2); (try clear hk); (try clear hi)))
  go_loopg [20] k (fun kq v20 w' => ∃ (x20_1 : Int) (x236000_1 : Int) (x236001_1 : Int), v20 = .int .i64 x20_1 ∧ Aside0 (proof_Claim.l0 kq a1 l0 (l0.length : Int) x20_1 = some (r1, r2, r3, r4)) ∧ Aside0 (kq ≤ k) ∧ Aside0 (w'.heap[gb235]? = some (.cells #[.int .u64 x236000_1, .int .u64 x236001_1, (.slice none 0 0)] 54 (0, 0))) ∧ Aside0 (Below w.heap.size w w'))
  case atStart => exact ⟨(0), (0), (0), (by first | rfl | (simp; done) | (simp [*]; done)), H', ⟨Nat.le_refl _⟩, ⟨by (with_reducible repeat (first | refine blk_drewN ?_ _ | refine blk_drew ?_ | refine blk_alloc ?_ _)); exact BK235.out⟩, ⟨by repeat (first | (with_reducible first | exact HB.out | apply below_alloc | apply pw_below_drewN | apply below_drew1 | refine below_set ?_ GE235.out) | exact HB.out)⟩⟩
  case round =>
   clear H'
   try clear p2
   try clear c3
   try clear c4
   try clear c4b0
   try clear c4b1
   obtain ⟨x20_1, x236000_1, x236001_1, rfl, HA, HK1, BK235, HB⟩ := hrel
   cases gk with
   | zero => exact absurd HA.out (by simp [proof_Claim.l0])
   | succ k1 =>
    have H := HA.out
    clear HA
    simp only [proof_Claim.l0] at H
    by_cases c7 : x20_1 < (l0.length : Int)
    ·rw [if_pos c7] at H
     have c7b0 : decide (x20_1 < (l0.length : Int)) = true := decide_eq_true c7
     clear c7
     by_cases c8 : 0 ≤ x20_1
     ·rw [if_pos c8] at H
      have c8b0 : decide (0 ≤ x20_1) = true := decide_eq_true c8
      clear c8
      by_cases c9 : x20_1 < (l0.length : Int)
      ·rw [if_pos c9] at H
       have c9b0 : decide (x20_1 < (l0.length : Int)) = true := decide_eq_true c9
       clear c9
       by_cases c10 : ((rd_T54 l0 x20_1).f0) = a1
       ·rw [if_pos c10] at H
        have c10b0 : (((rd_T54 l0 x20_1).f0) == a1) = true := beq_iff_eq.mpr c10
        have c10b1 : (((rd_T54 l0 x20_1).f0) != a1) = false := bne_eq_false_iff_eq.mpr c10
        clear c10
        replace H := Option.bind_eq_some_iff.mp H
        obtain ⟨t240, A110, H⟩ := H
        replace H : (some ((rd_T54 l0 x20_1).f0, (rd_T54 l0 x20_1).f1, t240, true)) = some (r1, r2, r3, r4) := H
        have A11 := Aside0.mk A110
        clear A110
        simp only [Option.some.injEq, Prod.mk.injEq] at H
        obtain ⟨rfl, rfl, rfl, rfl⟩ := H
        have p238 : 0 ≤ (x20_1 : Int) := of_decide_eq_true (by first | (with_reducible assumption) | assumption)
        have q238 : x20_1 < (l0.length : Int) := of_decide_eq_true (by first | (with_reducible assumption) | assumption)
        obtain ⟨ad238, A238_2, c238_2, e238, hx238_0, hx238_1, hx238_2, hl238_2, hi238_2⟩ := at_T54 HR0.out x20_1 p238 q238
        cases e238
        replace hx238_0 := (HB.out.cell (World.block_lt_of_cell? w _ hx238_0)).trans hx238_0
        replace hx238_1 := (HB.out.cell (World.block_lt_of_cell? w _ hx238_1)).trans hx238_1
        replace hx238_2 := (HB.out.cell (World.block_lt_of_cell? w _ hx238_2)).trans hx238_2
        have HR238_2 := Aside0.mk hi238_2
        have HC238_2 := Aside0.mk hl238_2
        clear hi238_2 hl238_2
        replace p238 := eq_true p238
        replace q238 := eq_true q238
        try go_wp2_with (first | ((with_reducible refine gate_dst (N := 9) rfl ?_); refine box_event ?hg (N := 9) ?hd (cs := #[.int .u64 0, .int .u64 0, .slice none 0 0]) (t := 54) ?hr ?_; (case hd => rfl); (case hg => rfl); (case hr => first | (go_simp; done) | (go_simp; rfl)); intro gb239 hg w12 hbox hb; have n0_ := Aside0.mk (blk_below (g := gb235) (o := .cells #[.int .u64 x236000_1, .int .u64 x236001_1, .slice none 0 0] 54 (0, 0)) (by (with_reducible repeat (first | refine blk_drewN ?_ _ | refine blk_drew ?_ | refine blk_alloc ?_ _)); exact BK235.out) hb); have n1_ := Aside0.mk (below_step (by repeat (first | (with_reducible first | exact HB.out | apply below_alloc | apply pw_below_drewN | apply below_drew1 | refine below_set ?_ GE235.out) | exact HB.out)) hb); have n2_ := Aside0.mk (hbox); have n3_ := Aside0.mk ((by rw [hg]; exact (below_size (by repeat (first | (with_reducible first | exact HB.out | apply below_alloc | apply pw_below_drewN | apply below_drew1 | refine below_set ?_ GE235.out) | exact HB.out))) : w.heap.size ≤ gb239)); have n4_ := Aside0.mk ((by rw [hg]; exact (below_size (by repeat (first | (with_reducible first | exact HB.out | apply below_alloc | apply pw_below_drewN | apply below_drew1 | refine below_set ?_ GE235.out) | exact HB.out))) : w.heap.size ≤ gb239)); have n5_ := Aside0.mk ((by rw [hg]; exact Nat.ne_of_lt (blk_lt (g := gb235) (o := .cells #[.int .u64 x236000_1, .int .u64 x236001_1, .slice none 0 0] 54 (0, 0)) (by (with_reducible repeat (first | refine blk_drewN ?_ _ | refine blk_drew ?_ | refine blk_alloc ?_ _)); exact BK235.out)) : gb235 ≠ gb239)); have n6_ := Aside0.mk ((by rw [hg]; exact Nat.ne_of_gt (blk_lt (g := gb235) (o := .cells #[.int .u64 x236000_1, .int .u64 x236001_1, .slice none 0 0] 54 (0, 0)) (by (with_reducible repeat (first | refine blk_drewN ?_ _ | refine blk_drew ?_ | refine blk_alloc ?_ _)); exact BK235.out)) : gb239 ≠ gb235)); clear BK235; clear HB; have BK235 := n0_; have HB := n1_; have BK239 := n2_; have GW239 := n3_; have GE239 := n4_; have NB235_239 := n5_; have NB239_235 := n6_; clear n0_ n1_ n2_ n3_ n4_ n5_ n6_; clear hb hbox hg; have hnb13 := NB239_235.out; have hnc13 := NB235_239.out; have hcz14_0 : w12.cell? ⟨gb239, 0, none⟩ = some (.int .u64 0) := (blk_cell BK239.out 0).trans rfl; have hcz14_1 : w12.cell? ⟨gb239, 1, none⟩ = some (.int .u64 0) := (blk_cell BK239.out 1).trans rfl; have hcz14_2 : w12.cell? ⟨gb239, 2, none⟩ = some (.slice none 0 0) := (blk_cell BK239.out 2).trans rfl; have hfz14_0 := blk_frozen BK239.out 0; have hfz14_1 := blk_frozen BK239.out 1; have hfz14_2 := blk_frozen BK239.out 2))
        have n0_ : Aside0 ((((w12.setCell ⟨gb239, 0, none⟩ (.int .u64 ((rd_T54 l0 x20_1).f0))).setCell ⟨gb239, 1, none⟩ (.int .u64 ((rd_T54 l0 x20_1).f1))).setCell ⟨gb239, 2, none⟩ (.slice A238_2 ((rd_T54 l0 x20_1).f2).length c238_2)).heap[gb235]? = some (.cells #[.int .u64 x236000_1, .int .u64 x236001_1, .slice none 0 0] 54 (0, 0))) := ⟨by (with_reducible repeat (first | refine blk_drewN ?_ _ | refine blk_drew ?_ | refine blk_alloc ?_ _)); refine blk_far ?_ NB235_239.out _; (with_reducible repeat (first | refine blk_drewN ?_ _ | refine blk_drew ?_ | refine blk_alloc ?_ _)); refine blk_far ?_ NB235_239.out _; (with_reducible repeat (first | refine blk_drewN ?_ _ | refine blk_drew ?_ | refine blk_alloc ?_ _)); refine blk_far ?_ NB235_239.out _; (with_reducible repeat (first | refine blk_drewN ?_ _ | refine blk_drew ?_ | refine blk_alloc ?_ _)); exact BK235.out⟩
        have n1_ : Aside0 ((((w12.setCell ⟨gb239, 0, none⟩ (.int .u64 ((rd_T54 l0 x20_1).f0))).setCell ⟨gb239, 1, none⟩ (.int .u64 ((rd_T54 l0 x20_1).f1))).setCell ⟨gb239, 2, none⟩ (.slice A238_2 ((rd_T54 l0 x20_1).f2).length c238_2)).heap[gb239]? = some (.cells #[.int .u64 ((rd_T54 l0 x20_1).f0), .int .u64 ((rd_T54 l0 x20_1).f1), .slice A238_2 ((rd_T54 l0 x20_1).f2).length c238_2] 54 (0, 0))) := ⟨by (with_reducible repeat (first | refine blk_drewN ?_ _ | refine blk_drew ?_ | refine blk_alloc ?_ _)); refine blk_put (cs := #[.int .u64 ((rd_T54 l0 x20_1).f0), .int .u64 ((rd_T54 l0 x20_1).f1), .slice none 0 0]) ?_ 2 _ rfl; (with_reducible repeat (first | refine blk_drewN ?_ _ | refine blk_drew ?_ | refine blk_alloc ?_ _)); refine blk_put (cs := #[.int .u64 ((rd_T54 l0 x20_1).f0), .int .u64 0, .slice none 0 0]) ?_ 1 _ rfl; (with_reducible repeat (first | refine blk_drewN ?_ _ | refine blk_drew ?_ | refine blk_alloc ?_ _)); refine blk_put (cs := #[.int .u64 0, .int .u64 0, .slice none 0 0]) ?_ 0 _ rfl; (with_reducible repeat (first | refine blk_drewN ?_ _ | refine blk_drew ?_ | refine blk_alloc ?_ _)); exact BK239.out⟩
        have n2_ : Aside0 (Below w.heap.size w (((w12.setCell ⟨gb239, 0, none⟩ (.int .u64 ((rd_T54 l0 x20_1).f0))).setCell ⟨gb239, 1, none⟩ (.int .u64 ((rd_T54 l0 x20_1).f1))).setCell ⟨gb239, 2, none⟩ (.slice A238_2 ((rd_T54 l0 x20_1).f2).length c238_2))) := ⟨by repeat (first | (with_reducible first | exact HB.out | apply below_alloc | apply pw_below_drewN | apply below_drew1 | refine below_set ?_ GE235.out | refine below_set ?_ GE239.out) | exact HB.out)⟩
        (try clear BK235)
        (try clear BK239)
        (try clear HB)
        generalize (((w12.setCell ⟨gb239, 0, none⟩ (.int .u64 ((rd_T54 l0 x20_1).f0))).setCell ⟨gb239, 1, none⟩ (.int .u64 ((rd_T54 l0 x20_1).f1))).setCell ⟨gb239, 2, none⟩ (.slice A238_2 ((rd_T54 l0 x20_1).f2).length c238_2)) = w15 at n0_ n1_ n2_ ⊢
        have BK235 := n0_
        have BK239 := n1_
        have HB := n2_
        clear n0_ n1_ n2_
        have n0_ := Aside0.mk (blk_drew BK235.out)
        have n1_ := Aside0.mk (blk_drew BK239.out)
        have n2_ := Aside0.mk (below_drew1 HB.out)
        clear BK235
        clear BK239
        clear HB
        have BK235 := n0_
        have BK239 := n1_
        have HB := n2_
        clear n0_ n1_ n2_
        refine start_ (n := 10) (S := fun w' => w'.cell? ⟨gb239, 0, none⟩ = some (.int .u64 ((rd_T54 l0 x20_1).f0)) ∧ w'.cell? ⟨gb239, 1, none⟩ = some (.int .u64 ((rd_T54 l0 x20_1).f1)) ∧ w'.cell? ⟨gb239, 2, none⟩ = some (.slice A238_2 ((rd_T54 l0 x20_1).f2).length c238_2)) (ds := []) #[false, false, false, false, false, false, false, false, false, false] (by kernel_rfl) rfl rfl ⟨(blk_cell BK239.out 0).trans rfl, (blk_cell BK239.out 1).trans rfl, (blk_cell BK239.out 2).trans rfl⟩ (fun hHeld => ?_); refine with_tabW proof_Claim.tab8 proof_Claim.bits8 (fun HT_ HW_ => ?_)
        generalize w15.drew = w16 at BK235 BK239 HB hHeld ⊢
        refine pure_ (i := 0) (N := some 28) (v := ?_) (a' := ?_) #[true, false, false, false, false, false, false, false, false, false] rfl rfl (any_of HT_.out (by kernel_rfl)) (fun _ _ _ h => h) (Or.inl ⟨by rfl, ?_⟩) ?_ ?_
        rotate_left
        ·intro w'
         go_simp
         with_reducible rfl
        rotate_left
        ·simp only [Act.put, zA, zB, zC, i64_w, i32_w]
         rfl
        refine pure_ (i := 2) (N := some 30) (v := ?_) (a' := ?_) #[true, false, true, false, false, false, false, false, false, false] rfl rfl (any_of HT_.out (by kernel_rfl)) (fun _ _ _ h => h) (Or.inl ⟨by rfl, ?_⟩) ?_ ?_
        rotate_left
        ·intro w'
         go_simp
         with_reducible rfl
        rotate_left
        ·simp only [Act.put, zA, zB, zC, i64_w, i32_w]
         rfl
        refine pure_ (i := 4) (N := some 32) (v := ?_) (a' := ?_) #[true, false, true, false, true, false, false, false, false, false] rfl rfl (any_of HT_.out (by kernel_rfl)) (fun _ _ _ h => h) (Or.inl ⟨by rfl, ?_⟩) ?_ ?_
        rotate_left
        ·intro w'
         go_simp
         with_reducible rfl
        rotate_left
        ·simp only [Act.put, zA, zB, zC, i64_w, i32_w]
         rfl
        refine take_ (i := 1) (N := some 29) (v := ?_) (a' := ?_) #[true, true, true, false, true, false, false, false, false, false] rfl rfl (take_ofW HT_.out HW_.out (by kernel_rfl)) (fun _ _ _ h => h) (Or.inl ⟨by rfl, ?_⟩) hHeld ?_ ?_
        rotate_left
        ·rintro w' ⟨s0, s1, s2⟩
         go_simp
         with_reducible rfl
        rotate_left
        ·simp only [Act.put, zA, zB, zC, i64_w, i32_w]
         rfl
        refine take_ (i := 3) (N := some 31) (v := ?_) (a' := ?_) #[true, true, true, true, true, false, false, false, false, false] rfl rfl (take_ofW HT_.out HW_.out (by kernel_rfl)) (fun _ _ _ h => h) (Or.inl ⟨by rfl, ?_⟩) hHeld ?_ ?_
        rotate_left
        ·rintro w' ⟨s0, s1, s2⟩
         go_simp
         with_reducible rfl
        rotate_left
        ·simp only [Act.put, zA, zB, zC, i64_w, i32_w]
         rfl
        refine take_ (i := 5) (N := some 33) (v := ?_) (a' := ?_) #[true, true, true, true, true, true, false, false, false, false] rfl rfl (take_ofW HT_.out HW_.out (by kernel_rfl)) (fun _ _ _ h => h) (Or.inl ⟨by rfl, ?_⟩) hHeld ?_ ?_
        rotate_left
        ·rintro w' ⟨s0, s1, s2⟩
         go_simp
         with_reducible rfl
        rotate_left
        ·simp only [Act.put, zA, zB, zC, i64_w, i32_w]
         rfl
        refine one_ (i := 6) (N := some 34) #[true, true, true, true, true, true, true, false, false, false] rfl rfl (one_of HT_.out (by kernel_rfl)) (by decide) (fun K hK => ?_)
        refine goes_ Try.func47 (by kernel_rfl) rfl #[.slice A238_2 ((rd_T54 l0 x20_1).f2).length c238_2] (by rfl) rfl rfl (by (try simp only [List.map_toArray, List.map_cons, List.map_nil]); first | done | rfl | (simp only [List.length_drop, List.length_take]; rfl)) ?_
        with_reducible refine (proof_Power.calls _ _ ((rd_T54 l0 x20_1).f2) t240 _ ?side1 ?side2 A11.out).mono ?_
        (case side1 => repeat (first | exact (Kd.C_below HR238_2.out HB.out) | (with_reducible refine Kd.C_alloc ?_ _) | (with_reducible refine Kd.C_drewN ?_ _) | (with_reducible refine Kd.C_drew ?_)))
        (case side2 => exact HC238_2.out)
        rintro e w17 ⟨v241, rfl, ho0, hb⟩
        refine ⟨_, rfl, ?_⟩
        have n0_ := Aside0.mk (Kd.R_lower ho0 (below_size (by repeat (first | (with_reducible first | exact HB.out | apply below_alloc | apply pw_below_drewN | apply below_drew1 | refine below_set ?_ GE235.out | refine below_set ?_ GE239.out) | exact HB.out))))
        have n1_ := Aside0.mk (blk_below (g := gb235) (o := .cells #[.int .u64 x236000_1, .int .u64 x236001_1, .slice none 0 0] 54 (0, 0)) (by (with_reducible repeat (first | refine blk_drewN ?_ _ | refine blk_drew ?_ | refine blk_alloc ?_ _)); exact BK235.out) hb)
        have n2_ := Aside0.mk (blk_below (g := gb239) (o := .cells #[.int .u64 ((rd_T54 l0 x20_1).f0), .int .u64 ((rd_T54 l0 x20_1).f1), .slice A238_2 ((rd_T54 l0 x20_1).f2).length c238_2] 54 (0, 0)) (by (with_reducible repeat (first | refine blk_drewN ?_ _ | refine blk_drew ?_ | refine blk_alloc ?_ _)); exact BK239.out) hb)
        have n3_ := Aside0.mk (below_step (by repeat (first | (with_reducible first | exact HB.out | apply below_alloc | apply pw_below_drewN | apply below_drew1 | refine below_set ?_ GE235.out | refine below_set ?_ GE239.out) | exact HB.out)) hb)
        clear BK235
        clear BK239
        clear HB
        have HO242 := n0_
        have BK235 := n1_
        have BK239 := n2_
        have HB := n3_
        clear n0_ n1_ n2_ n3_
        (try clear hb)
        (try clear hb2)
        (try clear hk)
        (try clear hi)
        (try clear ho0)
        obtain ⟨Ao18, co18, eo18⟩ := Kd.R_slice HO242.out
        (first | subst eo18 | (injection eo18 with f1_ f2_ f3_; have f4_ := f1_.symm; have f5_ := f3_.symm; clear f1_ f2_ f3_; subst f4_; subst f5_))
        refine hK.out _ _ ⟨(blk_cell BK239.out 0).trans rfl, (blk_cell BK239.out 1).trans rfl, (blk_cell BK239.out 2).trans rfl⟩ (fun hHeld => ?_)
        clear hK K
        refine norm_ (a' := ?_) ?_ ?_
        rotate_left
        ·show Act.put _ (some 34) _ = _
         simp only [Act.put, zA, zB, zC, i64_w, i32_w]
         rfl
        refine pure_ (i := 7) (N := some 35) (v := ?_) (a' := ?_) #[true, true, true, true, true, true, true, true, false, false] rfl rfl (any_of HT_.out (by kernel_rfl)) (fun _ _ _ h => h) (Or.inl ⟨by rfl, ?_⟩) ?_ ?_
        rotate_left
        ·intro w'
         go_simp
         with_reducible rfl
        rotate_left
        ·simp only [Act.put, zA, zB, zC, i64_w, i32_w]
         rfl
        refine one_ (i := 8) (N := none) #[true, true, true, true, true, true, true, true, true, false] rfl rfl (one_of HT_.out (by kernel_rfl)) (by decide) (fun K hK => ?_)
        have hs19 : w17.cell? ⟨gb235, 0, none⟩ = some (.int .u64 x236000_1) := (blk_cell BK235.out 0).trans rfl
        have hfs19 := blk_frozen BK235.out 0
        have hns19_1 := NB239_235.out
        have hms19_1 := NB235_239.out
        have hs20 : w17.cell? ⟨gb235, 1, none⟩ = some (.int .u64 x236001_1) := (blk_cell BK235.out 1).trans rfl
        have hfs20 := blk_frozen BK235.out 1
        have hns20_1 := NB239_235.out
        have hms20_1 := NB235_239.out
        have hs21 : w17.cell? ⟨gb235, 2, none⟩ = some (.slice none 0 0) := (blk_cell BK235.out 2).trans rfl
        have hfs21 := blk_frozen BK235.out 2
        have hns21_1 := NB239_235.out
        have hms21_1 := NB235_239.out
        refine skip_ (w1 := ?_) (by rfl) rfl ?_ ?_
        rotate_left
        ·go_simp
         rfl
        refine hK.out _ _ ⟨((cell_far (p := ⟨gb235, _, none⟩) NB239_235.out _).trans (((cell_far (p := ⟨gb235, _, none⟩) NB239_235.out _).trans (((cell_far (p := ⟨gb235, _, none⟩) NB239_235.out _).trans (hHeld.1)))))), ((cell_far (p := ⟨gb235, _, none⟩) NB239_235.out _).trans (((cell_far (p := ⟨gb235, _, none⟩) NB239_235.out _).trans (((cell_far (p := ⟨gb235, _, none⟩) NB239_235.out _).trans (hHeld.2.1)))))), ((cell_far (p := ⟨gb235, _, none⟩) NB239_235.out _).trans (((cell_far (p := ⟨gb235, _, none⟩) NB239_235.out _).trans (((cell_far (p := ⟨gb235, _, none⟩) NB239_235.out _).trans (hHeld.2.2))))))⟩ (fun hHeld => ?_)
        clear hK K
        refine pure_ (i := 9) (N := some 5) (v := ?_) (a' := ?_) #[true, true, true, true, true, true, true, true, true, true] rfl rfl (any_of HT_.out (by kernel_rfl)) (fun _ _ _ h => h) (Or.inl ⟨by rfl, ?_⟩) ?_ ?_
        rotate_left
        ·intro w'
         go_simp
         with_reducible rfl
        rotate_left
        ·simp only [Act.put, zA, zB, zC, i64_w, i32_w]
         rfl
        refine done_ (done_of HT_.out (by kernel_rfl)) ?_
        try go_wp2
        refine bodyPost_ret (results_ct rfl _ _ gb235 54 #[.int .u64 ((rd_T54 l0 x20_1).f0), .int .u64 ((rd_T54 l0 x20_1).f1), .slice Ao18 t240.length co18] (0, 0) _ rfl (by (with_reducible repeat (first | refine blk_drewN ?_ _ | refine blk_drew ?_ | refine blk_alloc ?_ _)); refine blk_put (cs := #[.int .u64 ((rd_T54 l0 x20_1).f0), .int .u64 ((rd_T54 l0 x20_1).f1), .slice none 0 0]) ?_ 2 _ rfl; (with_reducible repeat (first | refine blk_drewN ?_ _ | refine blk_drew ?_ | refine blk_alloc ?_ _)); refine blk_put (cs := #[.int .u64 ((rd_T54 l0 x20_1).f0), .int .u64 x236001_1, .slice none 0 0]) ?_ 1 _ rfl; (with_reducible repeat (first | refine blk_drewN ?_ _ | refine blk_drew ?_ | refine blk_alloc ?_ _)); refine blk_put (cs := #[.int .u64 x236000_1, .int .u64 x236001_1, .slice none 0 0]) ?_ 0 _ rfl; (with_reducible repeat (first | refine blk_drewN ?_ _ | refine blk_drew ?_ | refine blk_alloc ?_ _)); exact BK235.out) Try.underlying54 rfl (by kernel_rfl)) rfl ?_
        exact ⟨_, by first | rfl | (simp [errW_none, errW_some] <;> rfl) | (simp [*, errW_none, errW_some] <;> rfl), by (with_reducible repeat (first | apply Kd.R_alloc | apply Kd.R_drewN | apply Kd.R_drew)); exact Kd.R_mono (Kd.R_far (p := ⟨gb235, 2, none⟩) (Kd.R_far (p := ⟨gb235, 1, none⟩) (Kd.R_far (p := ⟨gb235, 0, none⟩) (Kd.R_types HO242.out BK235.out (by decide)) (fun _ hk => hk.2) (.int .u64 ((rd_T54 l0 x20_1).f0))) (fun _ hk => hk.2) (.int .u64 ((rd_T54 l0 x20_1).f1))) (fun _ hk => hk.2) (.slice Ao18 t240.length co18)) (fun _ hk => trivial), by repeat (first | (with_reducible first | exact HB.out | apply below_alloc | apply pw_below_drewN | apply below_drew1 | refine below_set ?_ GE235.out | refine below_set ?_ GE239.out) | exact HB.out)⟩
       ·rw [if_neg c10] at H
        have c10b0 : (((rd_T54 l0 x20_1).f0) == a1) = false := beq_eq_false_iff_ne.mpr c10
        have c10b1 : (((rd_T54 l0 x20_1).f0) != a1) = true := bne_iff_ne.mpr c10
        have H' := Aside0.mk H
        clear H
        have p238 : 0 ≤ (x20_1 : Int) := of_decide_eq_true (by first | (with_reducible assumption) | assumption)
        have q238 : x20_1 < (l0.length : Int) := of_decide_eq_true (by first | (with_reducible assumption) | assumption)
        obtain ⟨ad238, A238_2, c238_2, e238, hx238_0, hx238_1, hx238_2, hl238_2, hi238_2⟩ := at_T54 HR0.out x20_1 p238 q238
        cases e238
        replace hx238_0 := (HB.out.cell (World.block_lt_of_cell? w _ hx238_0)).trans hx238_0
        replace hx238_1 := (HB.out.cell (World.block_lt_of_cell? w _ hx238_1)).trans hx238_1
        replace hx238_2 := (HB.out.cell (World.block_lt_of_cell? w _ hx238_2)).trans hx238_2
        have HR238_2 := Aside0.mk hi238_2
        have HC238_2 := Aside0.mk hl238_2
        clear hi238_2 hl238_2
        replace p238 := eq_true p238
        replace q238 := eq_true q238
        go_wp2_with (first | ((with_reducible refine gate_dst (N := 9) rfl ?_); refine box_event ?hg (N := 9) ?hd (cs := #[.int .u64 0, .int .u64 0, .slice none 0 0]) (t := 54) ?hr ?_; (case hd => rfl); (case hg => rfl); (case hr => first | (go_simp; done) | (go_simp; rfl)); intro gb239 hg w22 hbox hb; have n0_ := Aside0.mk (blk_below (g := gb235) (o := .cells #[.int .u64 x236000_1, .int .u64 x236001_1, .slice none 0 0] 54 (0, 0)) (by (with_reducible repeat (first | refine blk_drewN ?_ _ | refine blk_drew ?_ | refine blk_alloc ?_ _)); exact BK235.out) hb); have n1_ := Aside0.mk (below_step (by repeat (first | (with_reducible first | exact HB.out | apply below_alloc | apply pw_below_drewN | apply below_drew1 | refine below_set ?_ GE235.out) | exact HB.out)) hb); have n2_ := Aside0.mk (hbox); have n3_ := Aside0.mk ((by rw [hg]; exact (below_size (by repeat (first | (with_reducible first | exact HB.out | apply below_alloc | apply pw_below_drewN | apply below_drew1 | refine below_set ?_ GE235.out) | exact HB.out))) : w.heap.size ≤ gb239)); have n4_ := Aside0.mk ((by rw [hg]; exact (below_size (by repeat (first | (with_reducible first | exact HB.out | apply below_alloc | apply pw_below_drewN | apply below_drew1 | refine below_set ?_ GE235.out) | exact HB.out))) : w.heap.size ≤ gb239)); have n5_ := Aside0.mk ((by rw [hg]; exact Nat.ne_of_lt (blk_lt (g := gb235) (o := .cells #[.int .u64 x236000_1, .int .u64 x236001_1, .slice none 0 0] 54 (0, 0)) (by (with_reducible repeat (first | refine blk_drewN ?_ _ | refine blk_drew ?_ | refine blk_alloc ?_ _)); exact BK235.out)) : gb235 ≠ gb239)); have n6_ := Aside0.mk ((by rw [hg]; exact Nat.ne_of_gt (blk_lt (g := gb235) (o := .cells #[.int .u64 x236000_1, .int .u64 x236001_1, .slice none 0 0] 54 (0, 0)) (by (with_reducible repeat (first | refine blk_drewN ?_ _ | refine blk_drew ?_ | refine blk_alloc ?_ _)); exact BK235.out)) : gb239 ≠ gb235)); clear BK235; clear HB; have BK235 := n0_; have HB := n1_; have BK239 := n2_; have GW239 := n3_; have GE239 := n4_; have NB235_239 := n5_; have NB239_235 := n6_; clear n0_ n1_ n2_ n3_ n4_ n5_ n6_; clear hb hbox hg; have hnb23 := NB239_235.out; have hnc23 := NB235_239.out; have hcz24_0 : w22.cell? ⟨gb239, 0, none⟩ = some (.int .u64 0) := (blk_cell BK239.out 0).trans rfl; have hcz24_1 : w22.cell? ⟨gb239, 1, none⟩ = some (.int .u64 0) := (blk_cell BK239.out 1).trans rfl; have hcz24_2 : w22.cell? ⟨gb239, 2, none⟩ = some (.slice none 0 0) := (blk_cell BK239.out 2).trans rfl; have hfz24_0 := blk_frozen BK239.out 0; have hfz24_1 := blk_frozen BK239.out 1; have hfz24_2 := blk_frozen BK239.out 2))
        go_roundg k1
        case measure => have := HK1.out; omega
        case rel => exact ⟨(wrap64 (x20_1 + 1)), (x236000_1), (x236001_1), (by first | rfl | (simp; done) | (simp [*]; done)), H', ⟨by have := HK1.out; omega⟩, ⟨by (with_reducible repeat (first | refine blk_drewN ?_ _ | refine blk_drew ?_ | refine blk_alloc ?_ _)); refine blk_far ?_ NB235_239.out _; (with_reducible repeat (first | refine blk_drewN ?_ _ | refine blk_drew ?_ | refine blk_alloc ?_ _)); refine blk_far ?_ NB235_239.out _; (with_reducible repeat (first | refine blk_drewN ?_ _ | refine blk_drew ?_ | refine blk_alloc ?_ _)); refine blk_far ?_ NB235_239.out _; (with_reducible repeat (first | refine blk_drewN ?_ _ | refine blk_drew ?_ | refine blk_alloc ?_ _)); exact BK235.out⟩, ⟨by repeat (first | (with_reducible first | exact HB.out | apply below_alloc | apply pw_below_drewN | apply below_drew1 | refine below_set ?_ GE235.out | refine below_set ?_ GE239.out) | exact HB.out)⟩⟩
      ·rw [if_neg c9] at H
       exact absurd H (by simp)
     ·rw [if_neg c8] at H
      exact absurd H (by simp)
    ·rw [if_neg c7] at H
     have c7b0 : decide (x20_1 < (l0.length : Int)) = false := decide_eq_false c7
     clear c7
     simp only [Option.some.injEq, Prod.mk.injEq] at H
     obtain ⟨rfl, rfl, rfl, rfl⟩ := H
     have hcz25_0 : wr.cell? ⟨gb235, 0, none⟩ = some (.int .u64 x236000_1) := (blk_cell BK235.out 0).trans rfl
     have hcz25_1 : wr.cell? ⟨gb235, 1, none⟩ = some (.int .u64 x236001_1) := (blk_cell BK235.out 1).trans rfl
     have hcz25_2 : wr.cell? ⟨gb235, 2, none⟩ = some (.slice none 0 0) := (blk_cell BK235.out 2).trans rfl
     have hfz25_0 := blk_frozen BK235.out 0
     have hfz25_1 := blk_frozen BK235.out 1
     have hfz25_2 := blk_frozen BK235.out 2
     go_wp2
     refine bodyPost_ret (results_ct rfl _ _ gb235 54 #[.int .u64 0, .int .u64 0, .slice none 0 0] (0, 0) _ rfl (by (with_reducible repeat (first | refine blk_drewN ?_ _ | refine blk_drew ?_ | refine blk_alloc ?_ _)); refine blk_put (cs := #[.int .u64 0, .int .u64 0, .slice none 0 0]) ?_ 2 _ rfl; (with_reducible repeat (first | refine blk_drewN ?_ _ | refine blk_drew ?_ | refine blk_alloc ?_ _)); refine blk_put (cs := #[.int .u64 0, .int .u64 x236001_1, .slice none 0 0]) ?_ 1 _ rfl; (with_reducible repeat (first | refine blk_drewN ?_ _ | refine blk_drew ?_ | refine blk_alloc ?_ _)); refine blk_put (cs := #[.int .u64 x236000_1, .int .u64 x236001_1, .slice none 0 0]) ?_ 0 _ rfl; (with_reducible repeat (first | refine blk_drewN ?_ _ | refine blk_drew ?_ | refine blk_alloc ?_ _)); exact BK235.out) Try.underlying54 rfl (by kernel_rfl)) rfl ?_
     exact ⟨_, by first | rfl | (simp [errW_none, errW_some] <;> rfl) | (simp [*, errW_none, errW_some] <;> rfl), by first | exact Kd.R_nil _ _ _ _ _ | exact Kd.N_nil _ _ _ _ _ | exact Kd.V_nil _ _ _ _ _ | exact Kd.Q_nil _ _ _ _ _ | exact Kd.S_nil _ _ _ _ _, by repeat (first | (with_reducible first | exact HB.out | apply below_alloc | apply pw_below_drewN | apply below_drew1 | refine below_set ?_ GE235.out) | exact HB.out)⟩
 ·rw [if_neg c4] at H
  have c4b0 : (t237 == 0) = false := beq_eq_false_iff_ne.mpr c4
  have c4b1 : (t237 != 0) = true := bne_iff_ne.mpr c4
  simp only [Option.some.injEq, Prod.mk.injEq] at H
  obtain ⟨rfl, rfl, rfl, rfl⟩ := H
  go_enter Try.func38, Try.ntmps38
  go_wp2_with (first | ((with_reducible refine gate_dst (N := 4) rfl ?_); refine box_event ?hg (N := 4) ?hd (cs := #[.int .u64 0, .int .u64 0, .slice none 0 0]) (t := 54) ?hr ?_; (case hd => rfl); (case hg => rfl); (case hr => first | (go_simp; done) | (go_simp; rfl)); intro gb235 hg w26 hbox hb; have n0_ := Aside0.mk (below_step (by repeat (first | (with_reducible first | exact HB.out | apply below_alloc | apply pw_below_drewN | apply below_drew1) | exact HB.out)) hb); have n1_ := Aside0.mk (hbox); have n2_ := Aside0.mk ((by rw [hg]; exact (below_size (by repeat (first | (with_reducible first | exact HB.out | apply below_alloc | apply pw_below_drewN | apply below_drew1) | exact HB.out))) : w.heap.size ≤ gb235)); have n3_ := Aside0.mk ((by rw [hg]; exact (below_size (by repeat (first | (with_reducible first | exact HB.out | apply below_alloc | apply pw_below_drewN | apply below_drew1) | exact HB.out))) : w.heap.size ≤ gb235)); clear HB; have HB := n0_; have BK235 := n1_; have GW235 := n2_; have GE235 := n3_; clear n0_ n1_ n2_ n3_; clear hb hbox hg) | ((with_reducible refine gate_callee (f := 34) rfl ?_); refine goesL_ (some 12) rfl rfl Try.func34 (by kernel_rfl) rfl #[.slice A0 l0.length c0] rfl (by (try simp only [List.map_toArray, List.map_cons, List.map_nil]); first | done | rfl | (simp only [List.length_drop, List.length_take]; rfl)) ?_; (with_reducible refine (proof_Check.calls k _ _ l0 t236 t237 _ ?side1 ?side2 A3.out).mono ?_); (case side1 => repeat (first | exact (Kd.C_below HR0.out HB.out) | (with_reducible refine Kd.C_alloc ?_ _) | (with_reducible refine Kd.C_drewN ?_ _) | (with_reducible refine Kd.C_drew ?_))); (case side2 => exact HC0.out); rintro e w27 ⟨rfl, hb⟩; refine ⟨_, rfl, ?_⟩; have n0_ := Aside0.mk (blk_below (g := gb235) (o := .cells #[.int .u64 0, .int .u64 0, .slice none 0 0] 54 (0, 0)) (by (with_reducible repeat (first | refine blk_drewN ?_ _ | refine blk_drew ?_ | refine blk_alloc ?_ _)); exact BK235.out) hb); have n1_ := Aside0.mk (below_step (by repeat (first | (with_reducible first | exact HB.out | apply below_alloc | apply pw_below_drewN | apply below_drew1 | refine below_set ?_ GE235.out) | exact HB.out)) hb); clear BK235; clear HB; have BK235 := n0_; have HB := n1_; clear n0_ n1_; (try clear hb); (try clear hb2); (try clear hk); (try clear hi); have hcz28_0 : w27.cell? ⟨gb235, 0, none⟩ = some (.int .u64 0) := (blk_cell BK235.out 0).trans rfl; have hcz28_1 : w27.cell? ⟨gb235, 1, none⟩ = some (.int .u64 0) := (blk_cell BK235.out 1).trans rfl; have hcz28_2 : w27.cell? ⟨gb235, 2, none⟩ = some (.slice none 0 0) := (blk_cell BK235.out 2).trans rfl; have hfz28_0 := blk_frozen BK235.out 0; have hfz28_1 := blk_frozen BK235.out 1; have hfz28_2 := blk_frozen BK235.out 2))
  refine bodyPost_ret (results_ct rfl _ _ gb235 54 #[.int .u64 0, .int .u64 0, .slice none 0 0] (0, 0) _ rfl (by (with_reducible repeat (first | refine blk_drewN ?_ _ | refine blk_drew ?_ | refine blk_alloc ?_ _)); refine blk_put (cs := #[.int .u64 0, .int .u64 0, .slice none 0 0]) ?_ 2 _ rfl; (with_reducible repeat (first | refine blk_drewN ?_ _ | refine blk_drew ?_ | refine blk_alloc ?_ _)); refine blk_put (cs := #[.int .u64 0, .int .u64 0, .slice none 0 0]) ?_ 1 _ rfl; (with_reducible repeat (first | refine blk_drewN ?_ _ | refine blk_drew ?_ | refine blk_alloc ?_ _)); refine blk_put (cs := #[.int .u64 0, .int .u64 0, .slice none 0 0]) ?_ 0 _ rfl; (with_reducible repeat (first | refine blk_drewN ?_ _ | refine blk_drew ?_ | refine blk_alloc ?_ _)); exact BK235.out) Try.underlying54 rfl (by kernel_rfl)) rfl ?_
  exact ⟨_, by first | rfl | (simp [errW_none, errW_some] <;> rfl) | (simp [*, errW_none, errW_some] <;> rfl), by first | exact Kd.R_nil _ _ _ _ _ | exact Kd.N_nil _ _ _ _ _ | exact Kd.V_nil _ _ _ _ _ | exact Kd.Q_nil _ _ _ _ _ | exact Kd.S_nil _ _ _ _ _, by repeat (first | (with_reducible first | exact HB.out | apply below_alloc | apply pw_below_drewN | apply below_drew1 | refine below_set ?_ GE235.out) | exact HB.out)⟩

end Go.Proofs.Ytcnnaciilphadaa.XP
