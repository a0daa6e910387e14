-- thinned
-- Printed by a program of this session (wip/tools/mkprint.py) out of the translation.
import Derived.Test.YtcnnaciilphadaaXP0
import Derived.Test.YtcnnaciilphadaaGiven
import Derived.Test.YtcnnaciilphadaaGiven04
namespace Go.Proofs.Ytcnnaciilphadaa.XP
open Go.RowKit Go.Proofs.Ytcnnaciilphadaa.Given Go.Proofs.Ytcnnaciilphadaa.Given04 Go.Proofs.YtcnnaciilphadaaW.PrintWords Go.Proofs.YtcnnaciilphadaaW.PrintLast Go.Proofs.YtcnnaciilphadaaW.PrintMore
attribute [local go_sem] max2_int min2_int max_two min_two max_three min_three max_four min_four   -- for this text's walks alone
set_option linter.unusedVariables false
set_option linter.unusedSimpArgs false

/-! ### proof_whole: function 50 -/
mutual
def proof_whole.j0 : Nat → List (S54) → Bool → Int → Int → List (S59) → Option (Bool)
 | 0, _, _, _, _, _ => none
 | k + 1, x0, x27, x102000, x102001, x102002 => if x27 = true then (some false) else (proof_whole.l0 k x0 1 x102002 (x102002.length : Int) 0 x102000 x102001 x102002)
def proof_whole.l0 : Nat → List (S54) → Int → List (S59) → Int → Int → Int → Int → List (S59) → Option (Bool)
 | 0, _, _, _, _, _, _, _, _ => none
 | k + 1, x0, x5, x29, x30, x31, x102000, x102001, x102002 => if x31 < x30 then (if 0 ≤ x31 then (if x31 < (x29.length : Int) then (if ((rd_T59 x29 x31).f1) < 1 then (proof_whole.j2 k x0 x5 x31 x29 x30 x31 true x102000 x102001 x102002 ((rd_T59 x29 x31).f0) ((rd_T59 x29 x31).f1)) else (proof_whole.j2 k x0 x5 x31 x29 x30 x31 (decide (((rd_T59 x29 x31).f1) > 62)) x102000 x102001 x102002 ((rd_T59 x29 x31).f0) ((rd_T59 x29 x31).f1))) else (none)) else (none)) else (some (x5 == (IntKind.u64.wrap (x102000 - 1))))
def proof_whole.j2 : Nat → List (S54) → Int → Int → List (S59) → Int → Int → Bool → Int → Int → List (S59) → Int → Int → Option (Bool)
 | 0, _, _, _, _, _, _, _, _, _, _, _, _ => none
 | k + 1, x0, x5, x6, x29, x30, x31, x43, x102000, x102001, x102002, x105000, x105001 => if x43 = true then (some false) else (if x6 > 0 then (if 0 ≤ (wrap64 (x6 - 1)) then (if (wrap64 (x6 - 1)) < (x102002.length : Int) then (if x105000 ≤ ((rd_T59 x102002 (wrap64 (x6 - 1))).f0) then (proof_whole.j3 k x0 x5 x29 x30 x31 true x102000 x102001 x102002 x105000 x105001) else ((proof_claimed.f x0 x105000).bind fun t106 => (proof_whole.j3 k x0 x5 x29 x30 x31 (!t106) x102000 x102001 x102002 x105000 x105001))) else (none)) else (none)) else (proof_whole.j3 k x0 x5 x29 x30 x31 false x102000 x102001 x102002 x105000 x105001))
def proof_whole.j3 : Nat → List (S54) → Int → List (S59) → Int → Int → Bool → Int → Int → List (S59) → Int → Int → Option (Bool)
 | 0, _, _, _, _, _, _, _, _, _, _, _ => none
 | k + 1, x0, x5, x29, x30, x31, x64, x102000, x102001, x102002, x105000, x105001 => if x64 = true then (some false) else (proof_whole.l1 k x0 x5 x29 x30 x31 x105001 0 x102000 x102001 x102002 x105000 x105001)
def proof_whole.l1 : Nat → List (S54) → Int → List (S59) → Int → Int → Int → Int → Int → Int → List (S59) → Int → Int → Option (Bool)
 | 0, _, _, _, _, _, _, _, _, _, _, _, _ => none
 | k + 1, x0, x5, x29, x30, x31, x66, x67, x102000, x102001, x102002, x105000, x105001 => if x67 < x66 then ((bits_Mul64.f x5 x105000).bind fun bt107 => (if bt107.1 > 0 then (some false) else (proof_whole.l1 k x0 bt107.2 x29 x30 x31 x66 (wrap64 (x67 + 1)) x102000 x102001 x102002 x105000 x105001))) else (proof_whole.l0 k x0 x5 x29 x30 (wrap64 (x31 + 1)) x102000 x102001 x102002)
end
def proof_whole.f (k : Nat) (l0 : List (S54)) (a1_0 : Int) (a1_1 : Int) (l1_2 : List (S59)) : Option (Bool) := if (l1_2.length : Int) = 0 then (proof_whole.j0 k l0 true a1_0 a1_1 l1_2) else (if (l1_2.length : Int) > 16 then (proof_whole.j0 k l0 true a1_0 a1_1 l1_2) else (if 0 < (l1_2.length : Int) then (proof_whole.j0 k l0 (((rd_T59 l1_2 0).f0) != 2) a1_0 a1_1 l1_2) else (none)))
theorem proof_whole.mono_l : ∀ k, (∀ y0 y1 y2 y3 y4, LeO (proof_whole.j0 k y0 y1 y2 y3 y4) (proof_whole.j0 (k + 1) y0 y1 y2 y3 y4)) ∧ (∀ y0 y1 y2 y3 y4 y5 y6 y7, LeO (proof_whole.l0 k y0 y1 y2 y3 y4 y5 y6 y7) (proof_whole.l0 (k + 1) y0 y1 y2 y3 y4 y5 y6 y7)) ∧ (∀ y0 y1 y2 y3 y4 y5 y6 y7 y8 y9 y10 y11, LeO (proof_whole.j2 k y0 y1 y2 y3 y4 y5 y6 y7 y8 y9 y10 y11) (proof_whole.j2 (k + 1) y0 y1 y2 y3 y4 y5 y6 y7 y8 y9 y10 y11)) ∧ (∀ y0 y1 y2 y3 y4 y5 y6 y7 y8 y9 y10, LeO (proof_whole.j3 k y0 y1 y2 y3 y4 y5 y6 y7 y8 y9 y10) (proof_whole.j3 (k + 1) y0 y1 y2 y3 y4 y5 y6 y7 y8 y9 y10)) ∧ (∀ y0 y1 y2 y3 y4 y5 y6 y7 y8 y9 y10 y11, LeO (proof_whole.l1 k y0 y1 y2 y3 y4 y5 y6 y7 y8 y9 y10 y11) (proof_whole.l1 (k + 1) y0 y1 y2 y3 y4 y5 y6 y7 y8 y9 y10 y11))
 | 0 => ⟨fun _ _ _ _ _ r h => by simp [proof_whole.j0] at h, fun _ _ _ _ _ _ _ _ r h => by simp [proof_whole.l0] at h, fun _ _ _ _ _ _ _ _ _ _ _ _ r h => by simp [proof_whole.j2] at h, fun _ _ _ _ _ _ _ _ _ _ _ r h => by simp [proof_whole.j3] at h, fun _ _ _ _ _ _ _ _ _ _ _ _ r h => by simp [proof_whole.l1] at h⟩
 | k + 1 => by
  obtain ⟨ih0, ih1, ih2, ih3, ih4⟩ := proof_whole.mono_l k
  refine ⟨?_, ?_, ?_, ?_, ?_⟩
  ·intro y0 y1 y2 y3 y4
   unfold proof_whole.j0
   repeat' first
   | (with_reducible exact ih0 _ _ _ _ _)
   | (with_reducible exact ih1 _ _ _ _ _ _ _ _)
   | (with_reducible exact ih2 _ _ _ _ _ _ _ _ _ _ _ _)
   | (with_reducible exact ih3 _ _ _ _ _ _ _ _ _ _ _)
   | (with_reducible exact ih4 _ _ _ _ _ _ _ _ _ _ _ _)
   | (with_reducible exact LeO.refl _)
   | (with_reducible exact LeO.none _)
   | (with_reducible refine LeO.ite ?_ ?_)
   | (with_reducible refine LeO.bind ?_ (fun _ => ?_))
   | exact ih0 _ _ _ _ _
   | exact ih1 _ _ _ _ _ _ _ _
   | exact ih2 _ _ _ _ _ _ _ _ _ _ _ _
   | exact ih3 _ _ _ _ _ _ _ _ _ _ _
   | exact ih4 _ _ _ _ _ _ _ _ _ _ _ _
   | exact LeO.none _
   | refine LeO.ite ?_ ?_
   | refine LeO.bind ?_ (fun _ => ?_)
  ·intro y0 y1 y2 y3 y4 y5 y6 y7
   unfold proof_whole.l0
   repeat' first
   | (with_reducible exact ih0 _ _ _ _ _)
   | (with_reducible exact ih1 _ _ _ _ _ _ _ _)
   | (with_reducible exact ih2 _ _ _ _ _ _ _ _ _ _ _ _)
   | (with_reducible exact ih3 _ _ _ _ _ _ _ _ _ _ _)
   | (with_reducible exact ih4 _ _ _ _ _ _ _ _ _ _ _ _)
   | (with_reducible exact LeO.refl _)
   | (with_reducible exact LeO.none _)
   | (with_reducible refine LeO.ite ?_ ?_)
   | (with_reducible refine LeO.bind ?_ (fun _ => ?_))
   | exact ih0 _ _ _ _ _
   | exact ih1 _ _ _ _ _ _ _ _
   | exact ih2 _ _ _ _ _ _ _ _ _ _ _ _
   | exact ih3 _ _ _ _ _ _ _ _ _ _ _
   | exact ih4 _ _ _ _ _ _ _ _ _ _ _ _
   | exact LeO.none _
   | refine LeO.ite ?_ ?_
   | refine LeO.bind ?_ (fun _ => ?_)
  ·intro y0 y1 y2 y3 y4 y5 y6 y7 y8 y9 y10 y11
   unfold proof_whole.j2
   repeat' first
   | (with_reducible exact ih0 _ _ _ _ _)
   | (with_reducible exact ih1 _ _ _ _ _ _ _ _)
   | (with_reducible exact ih2 _ _ _ _ _ _ _ _ _ _ _ _)
   | (with_reducible exact ih3 _ _ _ _ _ _ _ _ _ _ _)
   | (with_reducible exact ih4 _ _ _ _ _ _ _ _ _ _ _ _)
   | (with_reducible exact LeO.refl _)
   | (with_reducible exact LeO.none _)
   | (with_reducible refine LeO.ite ?_ ?_)
   | (with_reducible refine LeO.bind ?_ (fun _ => ?_))
   | exact ih0 _ _ _ _ _
   | exact ih1 _ _ _ _ _ _ _ _
   | exact ih2 _ _ _ _ _ _ _ _ _ _ _ _
   | exact ih3 _ _ _ _ _ _ _ _ _ _ _
   | exact ih4 _ _ _ _ _ _ _ _ _ _ _ _
   | exact LeO.none _
   | refine LeO.ite ?_ ?_
   | refine LeO.bind ?_ (fun _ => ?_)
  ·intro y0 y1 y2 y3 y4 y5 y6 y7 y8 y9 y10
   unfold proof_whole.j3
   repeat' first
   | (with_reducible exact ih0 _ _ _ _ _)
   | (with_reducible exact ih1 _ _ _ _ _ _ _ _)
   | (with_reducible exact ih2 _ _ _ _ _ _ _ _ _ _ _ _)
   | (with_reducible exact ih3 _ _ _ _ _ _ _ _ _ _ _)
   | (with_reducible exact ih4 _ _ _ _ _ _ _ _ _ _ _ _)
   | (with_reducible exact LeO.refl _)
   | (with_reducible exact LeO.none _)
   | (with_reducible refine LeO.ite ?_ ?_)
   | (with_reducible refine LeO.bind ?_ (fun _ => ?_))
   | exact ih0 _ _ _ _ _
   | exact ih1 _ _ _ _ _ _ _ _
   | exact ih2 _ _ _ _ _ _ _ _ _ _ _ _
   | exact ih3 _ _ _ _ _ _ _ _ _ _ _
   | exact ih4 _ _ _ _ _ _ _ _ _ _ _ _
   | exact LeO.none _
   | refine LeO.ite ?_ ?_
   | refine LeO.bind ?_ (fun _ => ?_)
  ·intro y0 y1 y2 y3 y4 y5 y6 y7 y8 y9 y10 y11
   unfold proof_whole.l1
   repeat' first
   | (with_reducible exact ih0 _ _ _ _ _)
   | (with_reducible exact ih1 _ _ _ _ _ _ _ _)
   | (with_reducible exact ih2 _ _ _ _ _ _ _ _ _ _ _ _)
   | (with_reducible exact ih3 _ _ _ _ _ _ _ _ _ _ _)
   | (with_reducible exact ih4 _ _ _ _ _ _ _ _ _ _ _ _)
   | (with_reducible exact LeO.refl _)
   | (with_reducible exact LeO.none _)
   | (with_reducible refine LeO.ite ?_ ?_)
   | (with_reducible refine LeO.bind ?_ (fun _ => ?_))
   | exact ih0 _ _ _ _ _
   | exact ih1 _ _ _ _ _ _ _ _
   | exact ih2 _ _ _ _ _ _ _ _ _ _ _ _
   | exact ih3 _ _ _ _ _ _ _ _ _ _ _
   | exact ih4 _ _ _ _ _ _ _ _ _ _ _ _
   | exact LeO.none _
   | refine LeO.ite ?_ ?_
   | refine LeO.bind ?_ (fun _ => ?_)
theorem proof_whole.mono : ∀ a0 a1 a2 a3 k, LeO (proof_whole.f k a0 a1 a2 a3) (proof_whole.f (k + 1) a0 a1 a2 a3) := by
 intro a0 a1 a2 a3 k
 obtain ⟨ih0, ih1, ih2, ih3, ih4⟩ := proof_whole.mono_l k
 unfold proof_whole.f
 repeat' first
   | (with_reducible exact ih0 _ _ _ _ _)
   | (with_reducible exact ih1 _ _ _ _ _ _ _ _)
   | (with_reducible exact ih2 _ _ _ _ _ _ _ _ _ _ _ _)
   | (with_reducible exact ih3 _ _ _ _ _ _ _ _ _ _ _)
   | (with_reducible exact ih4 _ _ _ _ _ _ _ _ _ _ _ _)
   | (with_reducible exact LeO.refl _)
   | (with_reducible exact LeO.none _)
   | (with_reducible refine LeO.ite ?_ ?_)
   | (with_reducible refine LeO.bind ?_ (fun _ => ?_))
   | exact ih0 _ _ _ _ _
   | exact ih1 _ _ _ _ _ _ _ _
   | exact ih2 _ _ _ _ _ _ _ _ _ _ _ _
   | exact ih3 _ _ _ _ _ _ _ _ _ _ _
   | exact ih4 _ _ _ _ _ _ _ _ _ _ _ _
   | exact LeO.none _
   | refine LeO.ite ?_ ?_
   | refine LeO.bind ?_ (fun _ => ?_)
def proof_whole.T9 : Bool × List (List Nat × List Nat) := (true, [([], []), ([0], [0]), ([1], [1]), ([2], [2]), ([3, 2], [2, 3]), ([2], [2]), ([5, 2], [2, 5]), ([2], [2]), ([7, 2], [2, 7]), ([6, 8, 2], [2, 6, 8]), ([9, 2], [2, 9]), ([10, 2], [2, 10]), ([4, 11, 2], [2, 4, 11]), ([12, 2, 2], [2, 12]), ([13], [13]), ([13], [13]), ([15, 13], [13, 15]), ([14, 16, 13, 13], [13, 14, 16]), ([17, 13], [13, 17]), ([13, 18, 2], [2, 13, 18]), ([2, 19], [2, 19])])
def proof_whole.B9 : List Nat := [0, 1, 3, 7, 15, 7, 39, 7, 135, 487, 999, 2023, 4095, 8191, 16383, 16383, 49151, 131071, 262143, 524287, 1048575]
theorem proof_whole.tab9 : rtab .any (opsOf Try.f50 9) = proof_whole.T9 := by kernel_rfl
theorem proof_whole.bits9 : waitsOk proof_whole.T9.2 proof_whole.B9 = true := by kernel_rfl
set_option maxHeartbeats 8000000 in
set_option maxRecDepth 100000 in
theorem proof_whole.calls (k : Nat) (A0 : Option Addr) (c0 : Nat) (l0 : List (S54)) (a1_0 : Int) (a1_1 : Int) (A1_2 : Option Addr) (c1_2 : Nat) (l1_2 : List (S59)) (r : Bool) (w : World) (hr0 : Kd.C k54 w A0 l0.length l0) (hc0 : l0.length ≤ c0) (hr1_2 : Kd.C k59 w A1_2 l1_2.length l1_2) (hc1_2 : l1_2.length ≤ c1_2) (h : proof_whole.f k l0 a1_0 a1_1 l1_2 = some r) :
  Calls Try.prog 50 #[.slice A0 l0.length c0, .agg #[.int .u64 a1_0, .int .u64 a1_1, .slice A1_2 l1_2.length c1_2]] w fun e w' => e = .returned (.bool r) ∧ Below w.heap.size w w' := by
 have hu54 := Try.underlying54
 have hu59 := Try.underlying59
 have HR0 := Aside0.mk hr0
 have HC0 := Aside0.mk hc0
 clear hr0 hc0
 have HR1_2 := Aside0.mk hr1_2
 have HC1_2 := Aside0.mk hc1_2
 clear hr1_2 hc1_2
 have HB := Aside0.mk (Below.refl w.heap.size w)
 have H : (if (l1_2.length : Int) = 0 then (proof_whole.j0 k l0 true a1_0 a1_1 l1_2) else (if (l1_2.length : Int) > 16 then (proof_whole.j0 k l0 true a1_0 a1_1 l1_2) else (if 0 < (l1_2.length : Int) then (proof_whole.j0 k l0 (((rd_T59 l1_2 0).f0) != 2) a1_0 a1_1 l1_2) else (none)))) = some r := h
 clear h
 have HC3 := Aside0.mk H
 clear H
 go_enter Try.func50, Try.ntmps50
 go_upto_region 1 with (first | ((with_reducible refine gate_dst (N := 3) rfl ?_); (try (refine gate_guard (by rfl) ?_; dsimp only)); refine box_event ?hg (N := 3) ?hd (cs := #[.int .u64 a1_0, .int .u64 a1_1, .slice A1_2 l1_2.length c1_2]) (t := 54) ?hr ?_; (case hd => rfl); (case hg => rfl); (case hr => first | (go_simp; done) | (go_simp; rfl)); intro gb101 hg w4 hbox hb; have n0_ := Aside0.mk (below_step (by repeat (first | (with_reducible first | exact HB.out | apply below_alloc | apply pw_below_drewN | apply below_drew1) | exact HB.out)) hb); have n1_ := Aside0.mk (hbox); have n2_ := Aside0.mk ((by rw [hg]; exact (below_size (by repeat (first | (with_reducible first | exact HB.out | apply below_alloc | apply pw_below_drewN | apply below_drew1) | exact HB.out))) : w.heap.size ≤ gb101)); have n3_ := Aside0.mk ((by rw [hg]; exact (below_size (by repeat (first | (with_reducible first | exact HB.out | apply below_alloc | apply pw_below_drewN | apply below_drew1) | exact HB.out))) : w.heap.size ≤ gb101)); clear HB; have HB := n0_; have BK101 := n1_; have GW101 := n2_; have GE101 := n3_; clear n0_ n1_ n2_ n3_; clear hb hbox hg))
 (try simp only [Act.put, List.setIfInBounds_toArray, List.set_cons_zero, List.set_cons_succ])
 go_cut [27] (fun v27 wc => ∃ (kq : Nat) (x27_2 : Bool), v27 = .bool x27_2 ∧ Aside0 (proof_whole.j0 kq l0 x27_2 a1_0 a1_1 l1_2 = some r) ∧ Aside0 (kq ≤ k) ∧ Aside0 (wc.heap[gb101]? = some (.cells #[.int .u64 a1_0, .int .u64 a1_1, (.slice A1_2 l1_2.length c1_2)] 54 (0, 0))) ∧ Aside0 (Below w.heap.size w wc))
 case first =>
  have H := HC3.out
  clear HC3
  by_cases c5 : (l1_2.length : Int) = 0
  ·rw [if_pos c5] at H
   have c5b0 : ((l1_2.length : Int) == 0) = true := beq_iff_eq.mpr c5
   have c5b1 : ((l1_2.length : Int) != 0) = false := bne_eq_false_iff_eq.mpr c5
   clear c5
   (first | rw [c5b0] | (simp only [i64_w, i32_w]; rw [c5b0]) | skip)
   have H' := Aside0.mk H
   clear H
   have hcz6_0 : w4.cell? ⟨gb101, 0, none⟩ = some (.int .u64 a1_0) := (blk_cell BK101.out 0).trans rfl
   have hcz6_1 : w4.cell? ⟨gb101, 1, none⟩ = some (.int .u64 a1_1) := (blk_cell BK101.out 1).trans rfl
   have hcz6_2 : w4.cell? ⟨gb101, 2, none⟩ = some (.slice A1_2 l1_2.length c1_2) := (blk_cell BK101.out 2).trans rfl
   have hfz6_0 := blk_frozen BK101.out 0
   have hfz6_1 := blk_frozen BK101.out 1
   have hfz6_2 := blk_frozen BK101.out 2
   go_wp2
   go_meet
   case rel => exact ⟨_, (true), (by first | rfl | (simp; done) | (simp [*]; done)), H', ⟨by first | omega | exact Nat.le_refl _⟩, ⟨by (with_reducible repeat (first | refine blk_drewN ?_ _ | refine blk_drew ?_ | refine blk_alloc ?_ _)); exact BK101.out⟩, ⟨by repeat (first | (with_reducible first | exact HB.out | apply below_alloc | apply pw_below_drewN | apply below_drew1 | refine below_set ?_ GE101.out) | exact HB.out)⟩⟩
  ·rw [if_neg c5] at H
   have c5b0 : ((l1_2.length : Int) == 0) = false := beq_eq_false_iff_ne.mpr c5
   have c5b1 : ((l1_2.length : Int) != 0) = true := bne_iff_ne.mpr c5
   have c5b2 : ¬ (l1_2 = []) := fun h_ => c5 (by rw [h_]; rfl)
   (first | rw [c5b0] | (simp only [i64_w, i32_w]; rw [c5b0]) | skip)
   by_cases c7 : (l1_2.length : Int) > 16
   ·rw [if_pos c7] at H
    have c7b0 : decide (16 < (l1_2.length : Int)) = true := decide_eq_true c7
    have c7b1 : decide (16 < l1_2.length) = true := decide_eq_true (by omega)
    clear c7
    have H' := Aside0.mk H
    clear H
    have hcz8_0 : w4.cell? ⟨gb101, 0, none⟩ = some (.int .u64 a1_0) := (blk_cell BK101.out 0).trans rfl
    have hcz8_1 : w4.cell? ⟨gb101, 1, none⟩ = some (.int .u64 a1_1) := (blk_cell BK101.out 1).trans rfl
    have hcz8_2 : w4.cell? ⟨gb101, 2, none⟩ = some (.slice A1_2 l1_2.length c1_2) := (blk_cell BK101.out 2).trans rfl
    have hfz8_0 := blk_frozen BK101.out 0
    have hfz8_1 := blk_frozen BK101.out 1
    have hfz8_2 := blk_frozen BK101.out 2
    go_wp2
    go_meet
    case rel => exact ⟨_, (true), (by first | rfl | (simp; done) | (simp [*]; done)), H', ⟨by first | omega | exact Nat.le_refl _⟩, ⟨by (with_reducible repeat (first | refine blk_drewN ?_ _ | refine blk_drew ?_ | refine blk_alloc ?_ _)); exact BK101.out⟩, ⟨by repeat (first | (with_reducible first | exact HB.out | apply below_alloc | apply pw_below_drewN | apply below_drew1 | refine below_set ?_ GE101.out) | exact HB.out)⟩⟩
   ·rw [if_neg c7] at H
    have c7b0 : decide (16 < (l1_2.length : Int)) = false := decide_eq_false c7
    have c7b1 : decide (16 < l1_2.length) = false := decide_eq_false (by omega)
    clear c7
    by_cases c9 : 0 < (l1_2.length : Int)
    ·rw [if_pos c9] at H
     have c9b0 : decide (0 < (l1_2.length : Int)) = true := decide_eq_true c9
     have c9b1 : decide (0 < l1_2.length) = true := decide_eq_true (by omega)
     clear c9
     have H' := Aside0.mk H
     clear H
     have hcz10_0 : w4.cell? ⟨gb101, 0, none⟩ = some (.int .u64 a1_0) := (blk_cell BK101.out 0).trans rfl
     have hcz10_1 : w4.cell? ⟨gb101, 1, none⟩ = some (.int .u64 a1_1) := (blk_cell BK101.out 1).trans rfl
     have hcz10_2 : w4.cell? ⟨gb101, 2, none⟩ = some (.slice A1_2 l1_2.length c1_2) := (blk_cell BK101.out 2).trans rfl
     have hfz10_0 := blk_frozen BK101.out 0
     have hfz10_1 := blk_frozen BK101.out 1
     have hfz10_2 := blk_frozen BK101.out 2
     have p102 : 0 ≤ (0 : Int) := (by omega)
     have q102 : 0 < (l1_2.length : Int) := of_decide_eq_true (by first | (with_reducible assumption) | assumption)
     obtain ⟨ad102, e102, hx102_0, hx102_1⟩ := at_T59 HR1_2.out 0 p102 q102
     cases e102
     have qi102 : (0 < l1_2.length) = True := eq_true (by omega)
     (try rw [show ((0 : Int)).toNat = 0 from rfl] at hx102_0)
     (try rw [show 0 * 2 = 0 from rfl] at hx102_0)
     (try rw [Addr.add_zero'] at hx102_0)
     (try rw [show ((0 : Int)).toNat = 0 from rfl] at hx102_1)
     (try rw [show 0 * 2 = 0 from rfl] at hx102_1)
     (try rw [Addr.add_zero'] at hx102_1)
     replace hx102_0 := (HB.out.cell (World.block_lt_of_cell? w _ hx102_0)).trans hx102_0
     replace hx102_1 := (HB.out.cell (World.block_lt_of_cell? w _ hx102_1)).trans hx102_1
     replace p102 := eq_true p102
     replace q102 := eq_true q102
     go_wp2
     go_meet
     case rel => exact ⟨_, ((((rd_T59 l1_2 0).f0) != 2)), (by first | rfl | (simp; done) | (simp [*]; done)), H', ⟨by first | omega | exact Nat.le_refl _⟩, ⟨by (with_reducible repeat (first | refine blk_drewN ?_ _ | refine blk_drew ?_ | refine blk_alloc ?_ _)); exact BK101.out⟩, ⟨by repeat (first | (with_reducible first | exact HB.out | apply below_alloc | apply pw_below_drewN | apply below_drew1 | refine below_set ?_ GE101.out) | exact HB.out)⟩⟩
    ·rw [if_neg c9] at H
     exact absurd H (by simp)
 case rest =>
  clear HC3
  try clear c1
  try clear p1
  try clear q1
  try clear hx1
  try clear qi1
  try clear p2
  try clear c5
  try clear c5b0
  try clear c5b1
  try clear c5b2
  try clear c7
  try clear c7b0
  try clear c7b1
  try clear c9
  try clear c9b0
  try clear c9b1
  try clear p10
  try clear q10
  try clear hx10
  try clear qi10
  try clear hcz10_0
  try clear hcz10_1
  try clear hcz10_2
  try clear hcz6_0
  try clear hcz6_1
  try clear hcz6_2
  try clear hcz8_0
  try clear hcz8_1
  try clear hcz8_2
  try clear hfz10_0
  try clear hfz10_1
  try clear hfz10_2
  try clear hfz6_0
  try clear hfz6_1
  try clear hfz6_2
  try clear hfz8_0
  try clear hfz8_1
  try clear hfz8_2
  try clear hx102_0
  try clear hx102_1
  try clear p102
  try clear q102
  obtain ⟨kq, x27_2, rfl, HA, HJ2, BK101, HB⟩ := hcut
  cases kq with
  | zero => exact absurd HA.out (by simp [proof_whole.j0])
  | succ kj2 =>
   have H := HA.out
   clear HA
   simp only [proof_whole.j0] at H
   by_cases c11 : x27_2 = true
   ·subst c11
    have H1 : (some false) = some r := by rw [if_pos rfl] at H <;> exact H
    clear H
    have H := H1
    clear H1
    obtain rfl := Option.some.inj H
    go_wp2
    go_ret
    exact ⟨by first | rfl | (simp [errW_none, errW_some] <;> rfl) | (simp [*, errW_none, errW_some] <;> rfl), by repeat (first | (with_reducible first | exact HB.out | apply below_alloc | apply pw_below_drewN | apply below_drew1 | refine below_set ?_ GE101.out) | exact HB.out)⟩
   ·replace c11 := Bool.eq_false_iff.mpr c11
    subst c11
    have H1 : (proof_whole.l0 kj2 l0 1 l1_2 (l1_2.length : Int) 0 a1_0 a1_1 l1_2) = some r := by rw [if_neg (show ¬ (false = true) by decide)] at H <;> exact H
    clear H
    have H := H1
    clear H1
    have H' := Aside0.mk H
    clear H
    have hcz12_0 : wc.cell? ⟨gb101, 0, none⟩ = some (.int .u64 a1_0) := (blk_cell BK101.out 0).trans rfl
    have hcz12_1 : wc.cell? ⟨gb101, 1, none⟩ = some (.int .u64 a1_1) := (blk_cell BK101.out 1).trans rfl
    have hcz12_2 : wc.cell? ⟨gb101, 2, none⟩ = some (.slice A1_2 l1_2.length c1_2) := (blk_cell BK101.out 2).trans rfl
    have hfz12_0 := blk_frozen BK101.out 0
    have hfz12_1 := blk_frozen BK101.out 1
    have hfz12_2 := blk_frozen BK101.out 2
    go_wp2
    go_loopg [5, 31] kj2 (fun kq v5 v31 w' => ∃ (x5_2 : Int) (x31_2 : Int), v5 = .int .u64 x5_2 ∧ v31 = .int .i64 x31_2 ∧ Aside0 (proof_whole.l0 kq l0 x5_2 l1_2 (l1_2.length : Int) x31_2 a1_0 a1_1 l1_2 = some r) ∧ Aside0 (kq ≤ kj2) ∧ Aside0 (w'.heap[gb101]? = some (.cells #[.int .u64 a1_0, .int .u64 a1_1, (.slice A1_2 l1_2.length c1_2)] 54 (0, 0))) ∧ Aside0 (Below w.heap.size w w'))
    case atStart => exact ⟨(1), (0), (by first | rfl | (simp; done) | (simp [*]; done)), (by first | rfl | (simp; done) | (simp [*]; done)), H', ⟨Nat.le_refl _⟩, ⟨by (with_reducible repeat (first | refine blk_drewN ?_ _ | refine blk_drew ?_ | refine blk_alloc ?_ _)); exact BK101.out⟩, ⟨by repeat (first | (with_reducible first | exact HB.out | apply below_alloc | apply pw_below_drewN | apply below_drew1 | refine below_set ?_ GE101.out) | exact HB.out)⟩⟩
    case round =>
     clear H'
     try clear c1
     try clear p1
     try clear q1
     try clear hx1
     try clear qi1
     try clear p2
     try clear c5
     try clear c5b0
     try clear c5b1
     try clear c5b2
     try clear c7
     try clear c7b0
     try clear c7b1
     try clear c9
     try clear c9b0
     try clear c9b1
     try clear p10
     try clear q10
     try clear hx10
     try clear qi10
     try clear c11
     try clear hcz10_0
     try clear hcz10_1
     try clear hcz10_2
     try clear hcz12_0
     try clear hcz12_1
     try clear hcz12_2
     try clear hcz6_0
     try clear hcz6_1
     try clear hcz6_2
     try clear hcz8_0
     try clear hcz8_1
     try clear hcz8_2
     try clear hfz10_0
     try clear hfz10_1
     try clear hfz10_2
     try clear hfz12_0
     try clear hfz12_1
     try clear hfz12_2
     try clear hfz6_0
     try clear hfz6_1
     try clear hfz6_2
     try clear hfz8_0
     try clear hfz8_1
     try clear hfz8_2
     try clear hx102_0
     try clear hx102_1
     try clear p1
     try clear p10
     try clear p102
     try clear p2
     try clear q1
     try clear q10
     try clear q102
     obtain ⟨x5_2, x31_2, rfl, rfl, HA, HK2, BK101, HB⟩ := hrel
     cases gk with
     | zero => exact absurd HA.out (by simp [proof_whole.l0])
     | succ k2 =>
      have H := HA.out
      clear HA
      simp only [proof_whole.l0] at H
      by_cases c13 : x31_2 < (l1_2.length : Int)
      ·rw [if_pos c13] at H
       have c13b0 : decide (x31_2 < (l1_2.length : Int)) = true := decide_eq_true c13
       clear c13
       by_cases c14 : 0 ≤ x31_2
       ·rw [if_pos c14] at H
        have c14b0 : decide (0 ≤ x31_2) = true := decide_eq_true c14
        clear c14
        by_cases c15 : x31_2 < (l1_2.length : Int)
        ·rw [if_pos c15] at H
         have c15b0 : decide (x31_2 < (l1_2.length : Int)) = true := decide_eq_true c15
         clear c15
         have HC16 := Aside0.mk H
         clear H
         have p103 : 0 ≤ (x31_2 : Int) := of_decide_eq_true (by first | (with_reducible assumption) | assumption)
         have q103 : x31_2 < (l1_2.length : Int) := of_decide_eq_true (by first | (with_reducible assumption) | assumption)
         obtain ⟨ad103, e103, hx103_0, hx103_1⟩ := at_T59 HR1_2.out x31_2 p103 q103
         cases e103
         replace hx103_0 := (HB.out.cell (World.block_lt_of_cell? w _ hx103_0)).trans hx103_0
         replace hx103_1 := (HB.out.cell (World.block_lt_of_cell? w _ hx103_1)).trans hx103_1
         replace p103 := eq_true p103
         replace q103 := eq_true q103
         go_upto_region 7 with (first | ((with_reducible refine gate_dst (N := 7) rfl ?_); (try (refine gate_guard (by rfl) ?_; dsimp only)); refine box_event ?hg (N := 7) ?hd (cs := #[.int .u64 0, .int .i64 0]) (t := 59) ?hr ?_; (case hd => rfl); (case hg => rfl); (case hr => first | (go_simp; done) | (go_simp; rfl)); intro gb104 hg w17 hbox hb; have n0_ := Aside0.mk (blk_below (g := gb101) (o := .cells #[.int .u64 a1_0, .int .u64 a1_1, .slice (some ad103) l1_2.length c1_2] 54 (0, 0)) (by (with_reducible repeat (first | refine blk_drewN ?_ _ | refine blk_drew ?_ | refine blk_alloc ?_ _)); exact BK101.out) hb); have n1_ := Aside0.mk (below_step (by repeat (first | (with_reducible first | exact HB.out | apply below_alloc | apply pw_below_drewN | apply below_drew1 | refine below_set ?_ GE101.out) | exact HB.out)) hb); have n2_ := Aside0.mk (hbox); have n3_ := Aside0.mk ((by rw [hg]; exact (below_size (by repeat (first | (with_reducible first | exact HB.out | apply below_alloc | apply pw_below_drewN | apply below_drew1 | refine below_set ?_ GE101.out) | exact HB.out))) : w.heap.size ≤ gb104)); have n4_ := Aside0.mk ((by rw [hg]; exact (below_size (by repeat (first | (with_reducible first | exact HB.out | apply below_alloc | apply pw_below_drewN | apply below_drew1 | refine below_set ?_ GE101.out) | exact HB.out))) : w.heap.size ≤ gb104)); have n5_ := Aside0.mk ((by rw [hg]; exact Nat.ne_of_lt (blk_lt (g := gb101) (o := .cells #[.int .u64 a1_0, .int .u64 a1_1, .slice (some ad103) l1_2.length c1_2] 54 (0, 0)) (by (with_reducible repeat (first | refine blk_drewN ?_ _ | refine blk_drew ?_ | refine blk_alloc ?_ _)); exact BK101.out)) : gb101 ≠ gb104)); have n6_ := Aside0.mk ((by rw [hg]; exact Nat.ne_of_gt (blk_lt (g := gb101) (o := .cells #[.int .u64 a1_0, .int .u64 a1_1, .slice (some ad103) l1_2.length c1_2] 54 (0, 0)) (by (with_reducible repeat (first | refine blk_drewN ?_ _ | refine blk_drew ?_ | refine blk_alloc ?_ _)); exact BK101.out)) : gb104 ≠ gb101)); clear BK101; clear HB; have BK101 := n0_; have HB := n1_; have BK104 := n2_; have GW104 := n3_; have GE104 := n4_; have NB101_104 := n5_; have NB104_101 := n6_; clear n0_ n1_ n2_ n3_ n4_ n5_ n6_; clear hb hbox hg; have hnb18 := NB104_101.out; have hnc18 := NB101_104.out; have hcz19_0 : w17.cell? ⟨gb104, 0, none⟩ = some (.int .u64 0) := (blk_cell BK104.out 0).trans rfl; have hcz19_1 : w17.cell? ⟨gb104, 1, none⟩ = some (.int .i64 0) := (blk_cell BK104.out 1).trans rfl; have hfz19_0 := blk_frozen BK104.out 0; have hfz19_1 := blk_frozen BK104.out 1))
         (try simp only [Act.put, List.setIfInBounds_toArray, List.set_cons_zero, List.set_cons_succ])
         go_cut [43] (fun v43 wc => ∃ (kq : Nat) (x43_15 : Bool), v43 = .bool x43_15 ∧ Aside0 (proof_whole.j2 kq l0 x5_2 x31_2 l1_2 (l1_2.length : Int) x31_2 x43_15 a1_0 a1_1 l1_2 ((rd_T59 l1_2 x31_2).f0) ((rd_T59 l1_2 x31_2).f1) = some r) ∧ Aside0 (kq ≤ k2) ∧ Aside0 (wc.heap[gb101]? = some (.cells #[.int .u64 a1_0, .int .u64 a1_1, (.slice (some ad103) l1_2.length c1_2)] 54 (0, 0))) ∧ Aside0 (wc.heap[gb104]? = some (.cells #[.int .u64 ((rd_T59 l1_2 x31_2).f0), .int .i64 ((rd_T59 l1_2 x31_2).f1)] 59 (0, 0))) ∧ Aside0 (Below w.heap.size w wc))
         case first =>
          have H := HC16.out
          clear HC16
          by_cases c20 : ((rd_T59 l1_2 x31_2).f1) < 1
          ·rw [if_pos c20] at H
           have c20b0 : decide (((rd_T59 l1_2 x31_2).f1) < 1) = true := decide_eq_true c20
           clear c20
           (first | rw [c20b0] | (simp only [i64_w, i32_w]; rw [c20b0]) | skip)
           have H' := Aside0.mk H
           clear H
           have hnb21 := NB104_101.out
           have hnc21 := NB101_104.out
           have hcz22_0 : w17.cell? ⟨gb104, 0, none⟩ = some (.int .u64 0) := (blk_cell BK104.out 0).trans rfl
           have hcz22_1 : w17.cell? ⟨gb104, 1, none⟩ = some (.int .i64 0) := (blk_cell BK104.out 1).trans rfl
           have hfz22_0 := blk_frozen BK104.out 0
           have hfz22_1 := blk_frozen BK104.out 1
           go_wp2
           go_meet
           case rel => exact ⟨_, (true), (by first | rfl | (simp; done) | (simp [*]; done)), H', ⟨by have := HJ2.out; have := HK2.out; first | omega | exact Nat.le_refl _⟩, ⟨by (with_reducible repeat (first | refine blk_drewN ?_ _ | refine blk_drew ?_ | refine blk_alloc ?_ _)); refine blk_far ?_ NB101_104.out _; (with_reducible repeat (first | refine blk_drewN ?_ _ | refine blk_drew ?_ | refine blk_alloc ?_ _)); refine blk_far ?_ NB101_104.out _; (with_reducible repeat (first | refine blk_drewN ?_ _ | refine blk_drew ?_ | refine blk_alloc ?_ _)); exact BK101.out⟩, ⟨by (with_reducible repeat (first | refine blk_drewN ?_ _ | refine blk_drew ?_ | refine blk_alloc ?_ _)); refine blk_put (cs := #[.int .u64 ((rd_T59 l1_2 x31_2).f0), .int .i64 0]) ?_ 1 _ rfl; (with_reducible repeat (first | refine blk_drewN ?_ _ | refine blk_drew ?_ | refine blk_alloc ?_ _)); refine blk_put (cs := #[.int .u64 0, .int .i64 0]) ?_ 0 _ rfl; (with_reducible repeat (first | refine blk_drewN ?_ _ | refine blk_drew ?_ | refine blk_alloc ?_ _)); exact BK104.out⟩, ⟨by repeat (first | (with_reducible first | exact HB.out | apply below_alloc | apply pw_below_drewN | apply below_drew1 | refine below_set ?_ GE101.out | refine below_set ?_ GE104.out) | exact HB.out)⟩⟩
          ·rw [if_neg c20] at H
           have c20b0 : decide (((rd_T59 l1_2 x31_2).f1) < 1) = false := decide_eq_false c20
           clear c20
           (first | rw [c20b0] | (simp only [i64_w, i32_w]; rw [c20b0]) | skip)
           have H' := Aside0.mk H
           clear H
           have hnb23 := NB104_101.out
           have hnc23 := NB101_104.out
           have hcz24_0 : w17.cell? ⟨gb104, 0, none⟩ = some (.int .u64 0) := (blk_cell BK104.out 0).trans rfl
           have hcz24_1 : w17.cell? ⟨gb104, 1, none⟩ = some (.int .i64 0) := (blk_cell BK104.out 1).trans rfl
           have hfz24_0 := blk_frozen BK104.out 0
           have hfz24_1 := blk_frozen BK104.out 1
           go_wp2
           go_meet
           case rel => exact ⟨_, (decide (((rd_T59 l1_2 x31_2).f1) > 62)), (by first | rfl | (simp; done) | (simp [*]; done)), H', ⟨by have := HJ2.out; have := HK2.out; first | omega | exact Nat.le_refl _⟩, ⟨by (with_reducible repeat (first | refine blk_drewN ?_ _ | refine blk_drew ?_ | refine blk_alloc ?_ _)); refine blk_far ?_ NB101_104.out _; (with_reducible repeat (first | refine blk_drewN ?_ _ | refine blk_drew ?_ | refine blk_alloc ?_ _)); refine blk_far ?_ NB101_104.out _; (with_reducible repeat (first | refine blk_drewN ?_ _ | refine blk_drew ?_ | refine blk_alloc ?_ _)); exact BK101.out⟩, ⟨by (with_reducible repeat (first | refine blk_drewN ?_ _ | refine blk_drew ?_ | refine blk_alloc ?_ _)); refine blk_put (cs := #[.int .u64 ((rd_T59 l1_2 x31_2).f0), .int .i64 0]) ?_ 1 _ rfl; (with_reducible repeat (first | refine blk_drewN ?_ _ | refine blk_drew ?_ | refine blk_alloc ?_ _)); refine blk_put (cs := #[.int .u64 0, .int .i64 0]) ?_ 0 _ rfl; (with_reducible repeat (first | refine blk_drewN ?_ _ | refine blk_drew ?_ | refine blk_alloc ?_ _)); exact BK104.out⟩, ⟨by repeat (first | (with_reducible first | exact HB.out | apply below_alloc | apply pw_below_drewN | apply below_drew1 | refine below_set ?_ GE101.out | refine below_set ?_ GE104.out) | exact HB.out)⟩⟩
         case rest =>
          clear HC16
          try clear c1
          try clear p1
          try clear q1
          try clear hx1
          try clear qi1
          try clear c2
          try clear p2
          try clear c5
          try clear c5b0
          try clear c5b1
          try clear c5b2
          try clear c7
          try clear c7b0
          try clear c7b1
          try clear c9
          try clear c9b0
          try clear c9b1
          try clear p10
          try clear q10
          try clear hx10
          try clear qi10
          try clear c11
          try clear c13
          try clear c13b0
          try clear c14
          try clear c14b0
          try clear c15
          try clear c15b0
          try clear c18
          try clear c20
          try clear c20b0
          try clear c21
          try clear c23
          try clear hcz10_0
          try clear hcz10_1
          try clear hcz10_2
          try clear hcz12_0
          try clear hcz12_1
          try clear hcz12_2
          try clear hcz19_0
          try clear hcz19_1
          try clear hcz22_0
          try clear hcz22_1
          try clear hcz24_0
          try clear hcz24_1
          try clear hcz6_0
          try clear hcz6_1
          try clear hcz6_2
          try clear hcz8_0
          try clear hcz8_1
          try clear hcz8_2
          try clear hfz10_0
          try clear hfz10_1
          try clear hfz10_2
          try clear hfz12_0
          try clear hfz12_1
          try clear hfz12_2
          try clear hfz19_0
          try clear hfz19_1
          try clear hfz22_0
          try clear hfz22_1
          try clear hfz24_0
          try clear hfz24_1
          try clear hfz6_0
          try clear hfz6_1
          try clear hfz6_2
          try clear hfz8_0
          try clear hfz8_1
          try clear hfz8_2
          try clear hx102_0
          try clear hx102_1
          try clear hx103_0
          try clear hx103_1
          try clear p1
          try clear p10
          try clear p102
          try clear p103
          try clear p2
          try clear q1
          try clear q10
          try clear q102
          try clear q103
          obtain ⟨kq, x43_15, rfl, HA, HJ15, BK101, BK104, HB⟩ := hcut
          cases kq with
          | zero => exact absurd HA.out (by simp [proof_whole.j2])
          | succ kj15 =>
           have H := HA.out
           clear HA
           simp only [proof_whole.j2] at H
           by_cases c25 : x43_15 = true
           ·subst c25
            have H1 : (some false) = some r := by rw [if_pos rfl] at H <;> exact H
            clear H
            have H := H1
            clear H1
            obtain rfl := Option.some.inj H
            go_wp2
            go_ret
            exact ⟨by first | rfl | (simp [errW_none, errW_some] <;> rfl) | (simp [*, errW_none, errW_some] <;> rfl), by repeat (first | (with_reducible first | exact HB.out | apply below_alloc | apply pw_below_drewN | apply below_drew1 | refine below_set ?_ GE101.out | refine below_set ?_ GE104.out) | exact HB.out)⟩
           ·replace c25 := Bool.eq_false_iff.mpr c25
            subst c25
            have H1 : (if x31_2 > 0 then (if 0 ≤ (wrap64 (x31_2 - 1)) then (if (wrap64 (x31_2 - 1)) < (l1_2.length : Int) then (if ((rd_T59 l1_2 x31_2).f0) ≤ ((rd_T59 l1_2 (wrap64 (x31_2 - 1))).f0) then (proof_whole.j3 kj15 l0 x5_2 l1_2 (l1_2.length : Int) x31_2 true a1_0 a1_1 l1_2 ((rd_T59 l1_2 x31_2).f0) ((rd_T59 l1_2 x31_2).f1)) else ((proof_claimed.f l0 ((rd_T59 l1_2 x31_2).f0)).bind fun t106 => (proof_whole.j3 kj15 l0 x5_2 l1_2 (l1_2.length : Int) x31_2 (!t106) a1_0 a1_1 l1_2 ((rd_T59 l1_2 x31_2).f0) ((rd_T59 l1_2 x31_2).f1)))) else (none)) else (none)) else (proof_whole.j3 kj15 l0 x5_2 l1_2 (l1_2.length : Int) x31_2 false a1_0 a1_1 l1_2 ((rd_T59 l1_2 x31_2).f0) ((rd_T59 l1_2 x31_2).f1))) = some r := by rw [if_neg (show ¬ (false = true) by decide)] at H <;> exact H
            clear H
            have H := H1
            clear H1
            have HC26 := Aside0.mk H
            clear H
            go_upto_region 9 with (fail)
            go_cut [64] (fun v64 wc => ∃ (kq : Nat) (x64_25 : Bool), v64 = .bool x64_25 ∧ Aside0 (proof_whole.j3 kq l0 x5_2 l1_2 (l1_2.length : Int) x31_2 x64_25 a1_0 a1_1 l1_2 ((rd_T59 l1_2 x31_2).f0) ((rd_T59 l1_2 x31_2).f1) = some r) ∧ Aside0 (kq ≤ kj15) ∧ Aside0 (wc.heap[gb101]? = some (.cells #[.int .u64 a1_0, .int .u64 a1_1, (.slice (some ad103) l1_2.length c1_2)] 54 (0, 0))) ∧ Aside0 (wc.heap[gb104]? = some (.cells #[.int .u64 ((rd_T59 l1_2 x31_2).f0), .int .i64 ((rd_T59 l1_2 x31_2).f1)] 59 (0, 0))) ∧ Aside0 (Below w.heap.size w wc))
            case first =>
             have H := HC26.out
             clear HC26
             by_cases c27 : x31_2 > 0
             ·rw [if_pos c27] at H
              have c27b0 : decide (0 < x31_2) = true := decide_eq_true c27
              clear c27
              (first | rw [c27b0] | (simp only [i64_w, i32_w]; rw [c27b0]) | skip)
              obtain ⟨ji28, hji28⟩ : ∃ j_ : Int, (wrap64 (x31_2 - 1)) = j_ := ⟨_, rfl⟩
              replace H : (if 0 ≤ (ji28) then (if (ji28) < (l1_2.length : Int) then (if ((rd_T59 l1_2 x31_2).f0) ≤ ((rd_T59 l1_2 (ji28)).f0) then (proof_whole.j3 kj15 l0 x5_2 l1_2 (l1_2.length : Int) x31_2 true a1_0 a1_1 l1_2 ((rd_T59 l1_2 x31_2).f0) ((rd_T59 l1_2 x31_2).f1)) else ((proof_claimed.f l0 ((rd_T59 l1_2 x31_2).f0)).bind fun t106 => (proof_whole.j3 kj15 l0 x5_2 l1_2 (l1_2.length : Int) x31_2 (!t106) a1_0 a1_1 l1_2 ((rd_T59 l1_2 x31_2).f0) ((rd_T59 l1_2 x31_2).f1)))) else (none)) else (none)) = some r := by first | (rw [hji28] at H <;> exact H) | (simp only [hji28] at H ⊢; exact H)
              have hji28w : (IntKind.i64.wrap (x31_2 - 1)) = ji28 := (i64_w _).trans hji28
              by_cases c29 : 0 ≤ (ji28)
              ·rw [if_pos c29] at H
               have c29b0 : decide (0 ≤ (ji28)) = true := decide_eq_true c29
               clear c29
               by_cases c30 : (ji28) < (l1_2.length : Int)
               ·rw [if_pos c30] at H
                have c30b0 : decide ((ji28) < (l1_2.length : Int)) = true := decide_eq_true c30
                clear c30
                by_cases c31 : ((rd_T59 l1_2 x31_2).f0) ≤ ((rd_T59 l1_2 (ji28)).f0)
                ·rw [if_pos c31] at H
                 have c31b0 : decide (((rd_T59 l1_2 x31_2).f0) ≤ ((rd_T59 l1_2 (ji28)).f0)) = true := decide_eq_true c31
                 clear c31
                 have H' := Aside0.mk H
                 clear H
                 try go_wp2
                 have n0_ := Aside0.mk (blk_drew BK101.out)
                 have n1_ := Aside0.mk (blk_drew BK104.out)
                 have n2_ := Aside0.mk (below_drew1 HB.out)
                 clear BK101
                 clear BK104
                 clear HB
                 have BK101 := n0_
                 have BK104 := n1_
                 have HB := n2_
                 clear n0_ n1_ n2_
                 have p105 : 0 ≤ ((ji28) : Int) := of_decide_eq_true (by first | (with_reducible assumption) | assumption)
                 have q105 : (ji28) < (l1_2.length : Int) := of_decide_eq_true (by first | (with_reducible assumption) | assumption)
                 obtain ⟨ad105, e105, hx105_0, hx105_1⟩ := at_T59 HR1_2.out (ji28) p105 q105
                 have hw105_1 := hx105_1
                 have hw105_0 := hx105_0
                 obtain rfl : ad103 = ad105 := (by injection e105)
                 replace hx105_0 := (HB.out.cell (World.block_lt_of_cell? w _ hx105_0)).trans hx105_0
                 replace hx105_1 := (HB.out.cell (World.block_lt_of_cell? w _ hx105_1)).trans hx105_1
                 replace p105 := eq_true p105
                 replace q105 := eq_true q105
                 refine start_ (n := 21) (S := fun w' => w'.cell? ⟨gb104, 0, none⟩ = some (.int .u64 ((rd_T59 l1_2 x31_2).f0)) ∧ w'.cell? ⟨gb104, 1, none⟩ = some (.int .i64 ((rd_T59 l1_2 x31_2).f1)) ∧ w'.cell? ⟨gb101, 0, none⟩ = some (.int .u64 a1_0) ∧ w'.cell? ⟨gb101, 1, none⟩ = some (.int .u64 a1_1) ∧ w'.cell? ⟨gb101, 2, none⟩ = some (.slice (some ad103) l1_2.length c1_2) ∧ w'.cell? (ad103.add (((ji28)).toNat * 2)) = some (.int .u64 ((rd_T59 l1_2 (ji28)).f0)) ∧ w'.cell? ⟨(ad103.add (((ji28)).toNat * 2)).block, (ad103.add (((ji28)).toNat * 2)).off + 1, none⟩ = some (.int .i64 ((rd_T59 l1_2 (ji28)).f1))) (ds := []) #[false, false, false, false, false, false, false, false, false, false, false, false, false, false, false, false, false, false, false, false, false] (by kernel_rfl) rfl rfl ⟨(blk_cell BK104.out 0).trans rfl, (blk_cell BK104.out 1).trans rfl, (blk_cell BK101.out 0).trans rfl, (blk_cell BK101.out 1).trans rfl, (blk_cell BK101.out 2).trans rfl, ((HB.out.cell (World.block_lt_of_cell? w _ hw105_0)).trans hw105_0), ((HB.out.cell (World.block_lt_of_cell? w _ hw105_1)).trans hw105_1)⟩ (fun hHeld => ?_); refine with_tabW proof_whole.tab9 proof_whole.bits9 (fun HT_ HW_ => ?_)
                 generalize wc.drew = w32 at BK101 BK104 HB hx105_0 hx105_1 hHeld ⊢
                 refine pure_ (i := 0) (N := some 44) (v := ?_) (a' := ?_) #[true, false, false, false, false, false, false, false, false, false, false, false, false, false, false, false, false, false, false, false, false] rfl rfl (any_of HT_.out (by kernel_rfl)) (fun _ _ _ h => h) (Or.inl ⟨by rfl, ?_⟩) ?_ ?_
                 rotate_left
                 ·intro w'
                  go_simp
                  with_reducible rfl
                 rotate_left
                 ·simp only [Act.put, zA, zB, zC, i64_w, i32_w]
                  rfl
                 refine pure_ (i := 1) (N := some 45) (v := ?_) (a' := ?_) #[true, true, false, false, false, false, false, false, false, false, false, false, false, false, false, false, false, false, false, false, false] rfl rfl (any_of HT_.out (by kernel_rfl)) (fun _ _ _ h => h) (Or.inl ⟨by rfl, ?_⟩) ?_ ?_
                 rotate_left
                 ·intro w'
                  go_simp
                  with_reducible rfl
                 rotate_left
                 ·simp only [Act.put, zA, zB, zC, i64_w, i32_w]
                  rfl
                 refine pure_ (i := 2) (N := some 46) (v := ?_) (a' := ?_) #[true, true, true, false, false, false, false, false, false, false, false, false, false, false, false, false, false, false, false, false, false] rfl rfl (any_of HT_.out (by kernel_rfl)) (fun _ _ _ h => h) (Or.inl ⟨by rfl, ?_⟩) ?_ ?_
                 rotate_left
                 ·intro w'
                  go_simp
                  with_reducible rfl
                 rotate_left
                 ·simp only [Act.put, zA, zB, zC, i64_w, i32_w]
                  rfl
                 refine pure_ (i := 3) (N := some 47) (v := ?_) (a' := ?_) #[true, true, true, true, false, false, false, false, false, false, false, false, false, false, false, false, false, false, false, false, false] rfl rfl (any_of HT_.out (by kernel_rfl)) (fun _ _ _ h => h) (Or.inl ⟨by rfl, ?_⟩) ?_ ?_
                 rotate_left
                 ·intro w'
                  go_simp
                  with_reducible rfl
                 rotate_left
                 ·simp only [Act.put, zA, zB, zC, i64_w, i32_w]
                  rfl
                 refine pure_ (i := 5) (N := some 49) (v := ?_) (a' := ?_) #[true, true, true, true, false, true, false, false, false, false, false, false, false, false, false, false, false, false, false, false, false] rfl rfl (any_of HT_.out (by kernel_rfl)) (fun _ _ _ h => h) (Or.inl ⟨by rfl, ?_⟩) ?_ ?_
                 rotate_left
                 ·intro w'
                  go_simp
                  with_reducible rfl
                 rotate_left
                 ·simp only [Act.put, zA, zB, zC, i64_w, i32_w]
                  rfl
                 refine pure_ (i := 7) (N := some 51) (v := ?_) (a' := ?_) #[true, true, true, true, false, true, false, true, false, false, false, false, false, false, false, false, false, false, false, false, false] rfl rfl (any_of HT_.out (by kernel_rfl)) (fun _ _ _ h => h) (Or.inl ⟨by rfl, ?_⟩) ?_ ?_
                 rotate_left
                 ·intro w'
                  go_simp
                  with_reducible rfl
                 rotate_left
                 ·simp only [Act.put, zA, zB, zC, i64_w, i32_w]
                  rfl
                 refine pure_ (i := 8) (N := some 52) (v := ?_) (a' := ?_) #[true, true, true, true, false, true, false, true, true, false, false, false, false, false, false, false, false, false, false, false, false] rfl rfl (any_of HT_.out (by kernel_rfl)) (fun _ _ _ h => h) (Or.inl ⟨by rfl, ?_⟩) ?_ ?_
                 rotate_left
                 ·intro w'
                  go_simp
                  with_reducible rfl
                 rotate_left
                 ·simp only [Act.put, zA, zB, zC, i64_w, i32_w]
                  rfl
                 refine take_ (i := 4) (N := some 48) (v := ?_) (a' := ?_) #[true, true, true, true, true, true, false, true, true, false, false, false, false, false, false, false, false, false, false, false, false] rfl rfl (take_ofW HT_.out HW_.out (by kernel_rfl)) (fun _ _ _ h => h) (Or.inl ⟨by rfl, ?_⟩) hHeld ?_ ?_
                 rotate_left
                 ·rintro w' ⟨s0, s1, s2, s3, s4, s5, s6⟩
                  go_simp
                  with_reducible rfl
                 rotate_left
                 ·simp only [Act.put, zA, zB, zC, i64_w, i32_w]
                  rfl
                 refine take_ (i := 6) (N := some 50) (v := ?_) (a' := ?_) #[true, true, true, true, true, true, true, true, true, false, false, false, false, false, false, false, false, false, false, false, false] rfl rfl (take_ofW HT_.out HW_.out (by kernel_rfl)) (fun _ _ _ h => h) (Or.inl ⟨by rfl, ?_⟩) hHeld ?_ ?_
                 rotate_left
                 ·rintro w' ⟨s0, s1, s2, s3, s4, s5, s6⟩
                  go_simp
                  with_reducible rfl
                 rotate_left
                 ·simp only [Act.put, zA, zB, zC, i64_w, i32_w]
                  rfl
                 refine pure_ (i := 9) (N := some 53) (v := ?_) (a' := ?_) #[true, true, true, true, true, true, true, true, true, true, false, false, false, false, false, false, false, false, false, false, false] rfl rfl (any_of HT_.out (by kernel_rfl)) (fun _ _ _ h => h) (Or.inl ⟨by rfl, ?_⟩) ?_ ?_
                 rotate_left
                 ·intro w'
                  go_simp
                  with_reducible rfl
                 rotate_left
                 ·simp only [Act.put, zA, zB, zC, i64_w, i32_w]
                  rfl
                 refine pure_ (i := 10) (N := some 54) (v := ?_) (a' := ?_) #[true, true, true, true, true, true, true, true, true, true, true, false, false, false, false, false, false, false, false, false, false] rfl rfl (any_of HT_.out (by kernel_rfl)) (fun _ _ _ h => h) (Or.inl ⟨by rfl, ?_⟩) ?_ ?_
                 rotate_left
                 ·intro w'
                  go_simp
                  with_reducible rfl
                 rotate_left
                 ·simp only [Act.put, zA, zB, zC, i64_w, i32_w]
                  rfl
                 refine take_ (i := 11) (N := some 55) (v := ?_) (a' := ?_) #[true, true, true, true, true, true, true, true, true, true, true, true, false, false, false, false, false, false, false, false, false] rfl rfl (take_ofW HT_.out HW_.out (by kernel_rfl)) (fun _ _ _ h => h) (Or.inl ⟨by rfl, ?_⟩) hHeld ?_ ?_
                 rotate_left
                 ·rintro w' ⟨s0, s1, s2, s3, s4, s5, s6⟩
                  go_simp
                  with_reducible rfl
                 rotate_left
                 ·simp only [Act.put, zA, zB, zC, i64_w, i32_w]
                  rfl
                 refine pure_ (i := 12) (N := some 56) (v := ?_) (a' := ?_) #[true, true, true, true, true, true, true, true, true, true, true, true, true, false, false, false, false, false, false, false, false] rfl rfl (any_of HT_.out (by kernel_rfl)) (fun _ _ _ h => h) (Or.inl ⟨by rfl, ?_⟩) ?_ ?_
                 rotate_left
                 ·intro w'
                  go_simp
                  with_reducible rfl
                 rotate_left
                 ·simp only [Act.put, zA, zB, zC, i64_w, i32_w]
                  rfl
                 refine pure_ (i := 13) (N := some 57) (v := ?_) (a' := ?_) #[true, true, true, true, true, true, true, true, true, true, true, true, true, true, false, false, false, false, false, false, false] rfl rfl (any_of HT_.out (by kernel_rfl)) (fun _ _ _ h => h) (Or.inl ⟨by rfl, ?_⟩) ?_ ?_
                 rotate_left
                 ·intro w'
                  go_simp
                  with_reducible rfl
                 rotate_left
                 ·simp only [Act.put, zA, zB, zC, i64_w, i32_w]
                  rfl
                 refine pure_ (i := 14) (N := some 58) (v := undef) (a' := ?_) #[true, true, true, true, true, true, true, true, true, true, true, true, true, true, true, false, false, false, false, false, false] rfl rfl (any_of HT_.out (by kernel_rfl)) (fun _ _ _ h => h) (Or.inr ⟨by rfl, rfl⟩) ?_ ?_
                 rotate_left
                 ·simp only [Act.put, zA, zB, zC, i64_w, i32_w]
                  rfl
                 refine pure_ (i := 15) (N := some 59) (v := undef) (a' := ?_) #[true, true, true, true, true, true, true, true, true, true, true, true, true, true, true, true, false, false, false, false, false] rfl rfl (any_of HT_.out (by kernel_rfl)) (fun _ _ _ h => h) (Or.inr ⟨by rfl, rfl⟩) ?_ ?_
                 rotate_left
                 ·simp only [Act.put, zA, zB, zC, i64_w, i32_w]
                  rfl
                 refine pure_ (i := 16) (N := some 60) (v := undef) (a' := ?_) #[true, true, true, true, true, true, true, true, true, true, true, true, true, true, true, true, true, false, false, false, false] rfl rfl (any_of HT_.out (by kernel_rfl)) (fun _ _ _ h => h) (Or.inr ⟨by rfl, rfl⟩) ?_ ?_
                 rotate_left
                 ·simp only [Act.put, zA, zB, zC, i64_w, i32_w]
                  rfl
                 refine pure_ (i := 17) (N := some 61) (v := undef) (a' := ?_) #[true, true, true, true, true, true, true, true, true, true, true, true, true, true, true, true, true, true, false, false, false] rfl rfl (any_of HT_.out (by kernel_rfl)) (fun _ _ _ h => h) (Or.inr ⟨by rfl, rfl⟩) ?_ ?_
                 rotate_left
                 ·simp only [Act.put, zA, zB, zC, i64_w, i32_w]
                  rfl
                 refine pure_ (i := 18) (N := some 62) (v := undef) (a' := ?_) #[true, true, true, true, true, true, true, true, true, true, true, true, true, true, true, true, true, true, true, false, false] rfl rfl (any_of HT_.out (by kernel_rfl)) (fun _ _ _ h => h) (Or.inr ⟨by rfl, rfl⟩) ?_ ?_
                 rotate_left
                 ·simp only [Act.put, zA, zB, zC, i64_w, i32_w]
                  rfl
                 refine pure_ (i := 19) (N := some 63) (v := ?_) (a' := ?_) #[true, true, true, true, true, true, true, true, true, true, true, true, true, true, true, true, true, true, true, true, false] rfl rfl (any_of HT_.out (by kernel_rfl)) (fun _ _ _ h => h) (Or.inl ⟨by rfl, ?_⟩) ?_ ?_
                 rotate_left
                 ·intro w'
                  go_simp
                  with_reducible rfl
                 rotate_left
                 ·simp only [Act.put, zA, zB, zC, i64_w, i32_w]
                  rfl
                 refine pure_ (i := 20) (N := some 64) (v := ?_) (a' := ?_) #[true, true, true, true, true, true, true, true, true, true, true, true, true, true, true, true, true, true, true, true, true] rfl rfl (any_of HT_.out (by kernel_rfl)) (fun _ _ _ h => h) (Or.inl ⟨by rfl, ?_⟩) ?_ ?_
                 rotate_left
                 ·intro w'
                  go_simp
                  with_reducible rfl
                 rotate_left
                 ·simp only [Act.put, zA, zB, zC, i64_w, i32_w]
                  rfl
                 refine done_ (done_of HT_.out (by kernel_rfl)) ?_
                 try go_wp2
                 go_meet
                 case rel => exact ⟨_, (true), (by first | rfl | (simp; done) | (simp [*]; done)), H', ⟨by have := HJ2.out; have := HK2.out; have := HJ15.out; first | omega | exact Nat.le_refl _⟩, ⟨by (with_reducible repeat (first | refine blk_drewN ?_ _ | refine blk_drew ?_ | refine blk_alloc ?_ _)); exact BK101.out⟩, ⟨by (with_reducible repeat (first | refine blk_drewN ?_ _ | refine blk_drew ?_ | refine blk_alloc ?_ _)); exact BK104.out⟩, ⟨by repeat (first | (with_reducible first | exact HB.out | apply below_alloc | apply pw_below_drewN | apply below_drew1 | refine below_set ?_ GE101.out | refine below_set ?_ GE104.out) | exact HB.out)⟩⟩
                ·rw [if_neg c31] at H
                 have c31b0 : decide (((rd_T59 l1_2 x31_2).f0) ≤ ((rd_T59 l1_2 (ji28)).f0)) = false := decide_eq_false c31
                 clear c31
                 replace H := Option.bind_eq_some_iff.mp H
                 obtain ⟨t106, A330, H⟩ := H
                 replace H : (proof_whole.j3 kj15 l0 x5_2 l1_2 (l1_2.length : Int) x31_2 (!t106) a1_0 a1_1 l1_2 ((rd_T59 l1_2 x31_2).f0) ((rd_T59 l1_2 x31_2).f1)) = some r := H
                 have A33 := Aside0.mk A330
                 clear A330
                 have H' := Aside0.mk H
                 clear H
                 try go_wp2
                 have n0_ := Aside0.mk (blk_drew BK101.out)
                 have n1_ := Aside0.mk (blk_drew BK104.out)
                 have n2_ := Aside0.mk (below_drew1 HB.out)
                 clear BK101
                 clear BK104
                 clear HB
                 have BK101 := n0_
                 have BK104 := n1_
                 have HB := n2_
                 clear n0_ n1_ n2_
                 have p105 : 0 ≤ ((ji28) : Int) := of_decide_eq_true (by first | (with_reducible assumption) | assumption)
                 have q105 : (ji28) < (l1_2.length : Int) := of_decide_eq_true (by first | (with_reducible assumption) | assumption)
                 obtain ⟨ad105, e105, hx105_0, hx105_1⟩ := at_T59 HR1_2.out (ji28) p105 q105
                 have hw105_1 := hx105_1
                 have hw105_0 := hx105_0
                 obtain rfl : ad103 = ad105 := (by injection e105)
                 replace hx105_0 := (HB.out.cell (World.block_lt_of_cell? w _ hx105_0)).trans hx105_0
                 replace hx105_1 := (HB.out.cell (World.block_lt_of_cell? w _ hx105_1)).trans hx105_1
                 replace p105 := eq_true p105
                 replace q105 := eq_true q105
                 refine start_ (n := 21) (S := fun w' => w'.cell? ⟨gb104, 0, none⟩ = some (.int .u64 ((rd_T59 l1_2 x31_2).f0)) ∧ w'.cell? ⟨gb104, 1, none⟩ = some (.int .i64 ((rd_T59 l1_2 x31_2).f1)) ∧ w'.cell? ⟨gb101, 0, none⟩ = some (.int .u64 a1_0) ∧ w'.cell? ⟨gb101, 1, none⟩ = some (.int .u64 a1_1) ∧ w'.cell? ⟨gb101, 2, none⟩ = some (.slice (some ad103) l1_2.length c1_2) ∧ w'.cell? (ad103.add (((ji28)).toNat * 2)) = some (.int .u64 ((rd_T59 l1_2 (ji28)).f0)) ∧ w'.cell? ⟨(ad103.add (((ji28)).toNat * 2)).block, (ad103.add (((ji28)).toNat * 2)).off + 1, none⟩ = some (.int .i64 ((rd_T59 l1_2 (ji28)).f1))) (ds := []) #[false, false, false, false, false, false, false, false, false, false, false, false, false, false, false, false, false, false, false, false, false] (by kernel_rfl) rfl rfl ⟨(blk_cell BK104.out 0).trans rfl, (blk_cell BK104.out 1).trans rfl, (blk_cell BK101.out 0).trans rfl, (blk_cell BK101.out 1).trans rfl, (blk_cell BK101.out 2).trans rfl, ((HB.out.cell (World.block_lt_of_cell? w _ hw105_0)).trans hw105_0), ((HB.out.cell (World.block_lt_of_cell? w _ hw105_1)).trans hw105_1)⟩ (fun hHeld => ?_); refine with_tabW proof_whole.tab9 proof_whole.bits9 (fun HT_ HW_ => ?_)
                 generalize wc.drew = w34 at BK101 BK104 HB hx105_0 hx105_1 hHeld ⊢
                 refine pure_ (i := 0) (N := some 44) (v := ?_) (a' := ?_) #[true, false, false, false, false, false, false, false, false, false, false, false, false, false, false, false, false, false, false, false, false] rfl rfl (any_of HT_.out (by kernel_rfl)) (fun _ _ _ h => h) (Or.inl ⟨by rfl, ?_⟩) ?_ ?_
                 rotate_left
                 ·intro w'
                  go_simp
                  with_reducible rfl
                 rotate_left
                 ·simp only [Act.put, zA, zB, zC, i64_w, i32_w]
                  rfl
                 refine pure_ (i := 1) (N := some 45) (v := ?_) (a' := ?_) #[true, true, false, false, false, false, false, false, false, false, false, false, false, false, false, false, false, false, false, false, false] rfl rfl (any_of HT_.out (by kernel_rfl)) (fun _ _ _ h => h) (Or.inl ⟨by rfl, ?_⟩) ?_ ?_
                 rotate_left
                 ·intro w'
                  go_simp
                  with_reducible rfl
                 rotate_left
                 ·simp only [Act.put, zA, zB, zC, i64_w, i32_w]
                  rfl
                 refine pure_ (i := 2) (N := some 46) (v := ?_) (a' := ?_) #[true, true, true, false, false, false, false, false, false, false, false, false, false, false, false, false, false, false, false, false, false] rfl rfl (any_of HT_.out (by kernel_rfl)) (fun _ _ _ h => h) (Or.inl ⟨by rfl, ?_⟩) ?_ ?_
                 rotate_left
                 ·intro w'
                  go_simp
                  with_reducible rfl
                 rotate_left
                 ·simp only [Act.put, zA, zB, zC, i64_w, i32_w]
                  rfl
                 refine pure_ (i := 3) (N := some 47) (v := ?_) (a' := ?_) #[true, true, true, true, false, false, false, false, false, false, false, false, false, false, false, false, false, false, false, false, false] rfl rfl (any_of HT_.out (by kernel_rfl)) (fun _ _ _ h => h) (Or.inl ⟨by rfl, ?_⟩) ?_ ?_
                 rotate_left
                 ·intro w'
                  go_simp
                  with_reducible rfl
                 rotate_left
                 ·simp only [Act.put, zA, zB, zC, i64_w, i32_w]
                  rfl
                 refine pure_ (i := 5) (N := some 49) (v := ?_) (a' := ?_) #[true, true, true, true, false, true, false, false, false, false, false, false, false, false, false, false, false, false, false, false, false] rfl rfl (any_of HT_.out (by kernel_rfl)) (fun _ _ _ h => h) (Or.inl ⟨by rfl, ?_⟩) ?_ ?_
                 rotate_left
                 ·intro w'
                  go_simp
                  with_reducible rfl
                 rotate_left
                 ·simp only [Act.put, zA, zB, zC, i64_w, i32_w]
                  rfl
                 refine pure_ (i := 7) (N := some 51) (v := ?_) (a' := ?_) #[true, true, true, true, false, true, false, true, false, false, false, false, false, false, false, false, false, false, false, false, false] rfl rfl (any_of HT_.out (by kernel_rfl)) (fun _ _ _ h => h) (Or.inl ⟨by rfl, ?_⟩) ?_ ?_
                 rotate_left
                 ·intro w'
                  go_simp
                  with_reducible rfl
                 rotate_left
                 ·simp only [Act.put, zA, zB, zC, i64_w, i32_w]
                  rfl
                 refine pure_ (i := 8) (N := some 52) (v := ?_) (a' := ?_) #[true, true, true, true, false, true, false, true, true, false, false, false, false, false, false, false, false, false, false, false, false] rfl rfl (any_of HT_.out (by kernel_rfl)) (fun _ _ _ h => h) (Or.inl ⟨by rfl, ?_⟩) ?_ ?_
                 rotate_left
                 ·intro w'
                  go_simp
                  with_reducible rfl
                 rotate_left
                 ·simp only [Act.put, zA, zB, zC, i64_w, i32_w]
                  rfl
                 refine take_ (i := 4) (N := some 48) (v := ?_) (a' := ?_) #[true, true, true, true, true, true, false, true, true, false, false, false, false, false, false, false, false, false, false, false, false] rfl rfl (take_ofW HT_.out HW_.out (by kernel_rfl)) (fun _ _ _ h => h) (Or.inl ⟨by rfl, ?_⟩) hHeld ?_ ?_
                 rotate_left
                 ·rintro w' ⟨s0, s1, s2, s3, s4, s5, s6⟩
                  go_simp
                  with_reducible rfl
                 rotate_left
                 ·simp only [Act.put, zA, zB, zC, i64_w, i32_w]
                  rfl
                 refine take_ (i := 6) (N := some 50) (v := ?_) (a' := ?_) #[true, true, true, true, true, true, true, true, true, false, false, false, false, false, false, false, false, false, false, false, false] rfl rfl (take_ofW HT_.out HW_.out (by kernel_rfl)) (fun _ _ _ h => h) (Or.inl ⟨by rfl, ?_⟩) hHeld ?_ ?_
                 rotate_left
                 ·rintro w' ⟨s0, s1, s2, s3, s4, s5, s6⟩
                  go_simp
                  with_reducible rfl
                 rotate_left
                 ·simp only [Act.put, zA, zB, zC, i64_w, i32_w]
                  rfl
                 refine pure_ (i := 9) (N := some 53) (v := ?_) (a' := ?_) #[true, true, true, true, true, true, true, true, true, true, false, false, false, false, false, false, false, false, false, false, false] rfl rfl (any_of HT_.out (by kernel_rfl)) (fun _ _ _ h => h) (Or.inl ⟨by rfl, ?_⟩) ?_ ?_
                 rotate_left
                 ·intro w'
                  go_simp
                  with_reducible rfl
                 rotate_left
                 ·simp only [Act.put, zA, zB, zC, i64_w, i32_w]
                  rfl
                 refine pure_ (i := 10) (N := some 54) (v := ?_) (a' := ?_) #[true, true, true, true, true, true, true, true, true, true, true, false, false, false, false, false, false, false, false, false, false] rfl rfl (any_of HT_.out (by kernel_rfl)) (fun _ _ _ h => h) (Or.inl ⟨by rfl, ?_⟩) ?_ ?_
                 rotate_left
                 ·intro w'
                  go_simp
                  with_reducible rfl
                 rotate_left
                 ·simp only [Act.put, zA, zB, zC, i64_w, i32_w]
                  rfl
                 refine take_ (i := 11) (N := some 55) (v := ?_) (a' := ?_) #[true, true, true, true, true, true, true, true, true, true, true, true, false, false, false, false, false, false, false, false, false] rfl rfl (take_ofW HT_.out HW_.out (by kernel_rfl)) (fun _ _ _ h => h) (Or.inl ⟨by rfl, ?_⟩) hHeld ?_ ?_
                 rotate_left
                 ·rintro w' ⟨s0, s1, s2, s3, s4, s5, s6⟩
                  go_simp
                  with_reducible rfl
                 rotate_left
                 ·simp only [Act.put, zA, zB, zC, i64_w, i32_w]
                  rfl
                 refine pure_ (i := 12) (N := some 56) (v := ?_) (a' := ?_) #[true, true, true, true, true, true, true, true, true, true, true, true, true, false, false, false, false, false, false, false, false] rfl rfl (any_of HT_.out (by kernel_rfl)) (fun _ _ _ h => h) (Or.inl ⟨by rfl, ?_⟩) ?_ ?_
                 rotate_left
                 ·intro w'
                  go_simp
                  with_reducible rfl
                 rotate_left
                 ·simp only [Act.put, zA, zB, zC, i64_w, i32_w]
                  rfl
                 refine pure_ (i := 13) (N := some 57) (v := ?_) (a' := ?_) #[true, true, true, true, true, true, true, true, true, true, true, true, true, true, false, false, false, false, false, false, false] rfl rfl (any_of HT_.out (by kernel_rfl)) (fun _ _ _ h => h) (Or.inl ⟨by rfl, ?_⟩) ?_ ?_
                 rotate_left
                 ·intro w'
                  go_simp
                  with_reducible rfl
                 rotate_left
                 ·simp only [Act.put, zA, zB, zC, i64_w, i32_w]
                  rfl
                 refine pure_ (i := 14) (N := some 58) (v := ?_) (a' := ?_) #[true, true, true, true, true, true, true, true, true, true, true, true, true, true, true, false, false, false, false, false, false] rfl rfl (any_of HT_.out (by kernel_rfl)) (fun _ _ _ h => h) (Or.inl ⟨by rfl, ?_⟩) ?_ ?_
                 rotate_left
                 ·intro w'
                  go_simp
                  with_reducible rfl
                 rotate_left
                 ·simp only [Act.put, zA, zB, zC, i64_w, i32_w]
                  rfl
                 refine pure_ (i := 15) (N := some 59) (v := ?_) (a' := ?_) #[true, true, true, true, true, true, true, true, true, true, true, true, true, true, true, true, false, false, false, false, false] rfl rfl (any_of HT_.out (by kernel_rfl)) (fun _ _ _ h => h) (Or.inl ⟨by rfl, ?_⟩) ?_ ?_
                 rotate_left
                 ·intro w'
                  go_simp
                  with_reducible rfl
                 rotate_left
                 ·simp only [Act.put, zA, zB, zC, i64_w, i32_w]
                  rfl
                 refine take_ (i := 16) (N := some 60) (v := ?_) (a' := ?_) #[true, true, true, true, true, true, true, true, true, true, true, true, true, true, true, true, true, false, false, false, false] rfl rfl (take_ofW HT_.out HW_.out (by kernel_rfl)) (fun _ _ _ h => h) (Or.inl ⟨by rfl, ?_⟩) hHeld ?_ ?_
                 rotate_left
                 ·rintro w' ⟨s0, s1, s2, s3, s4, s5, s6⟩
                  go_simp
                  with_reducible rfl
                 rotate_left
                 ·simp only [Act.put, zA, zB, zC, i64_w, i32_w]
                  rfl
                 refine one_ (i := 17) (N := some 61) #[true, true, true, true, true, true, true, true, true, true, true, true, true, true, true, true, true, true, false, false, false] rfl rfl (one_of HT_.out (by kernel_rfl)) (by decide) (fun K hK => ?_)
                 refine goes_ Try.func54 (by kernel_rfl) rfl #[.slice A0 l0.length c0, .int .u64 ((rd_T59 l1_2 x31_2).f0)] (by rfl) rfl rfl (by (try simp only [List.map_toArray, List.map_cons, List.map_nil]); first | done | rfl | (simp only [List.length_drop, List.length_take]; rfl)) ?_
                 with_reducible refine (proof_claimed.calls _ _ l0 ((rd_T59 l1_2 x31_2).f0) t106 _ ?side1 ?side2 A33.out).mono ?_
                 (case side1 => repeat (first | exact (Kd.C_below HR0.out HB.out) | (with_reducible refine Kd.C_alloc ?_ _) | (with_reducible refine Kd.C_drewN ?_ _) | (with_reducible refine Kd.C_drew ?_)))
                 (case side2 => exact HC0.out)
                 rintro e w35 ⟨rfl, hb⟩
                 refine ⟨_, rfl, ?_⟩
                 have n0_ := Aside0.mk (blk_below (g := gb101) (o := .cells #[.int .u64 a1_0, .int .u64 a1_1, .slice (some ad103) l1_2.length c1_2] 54 (0, 0)) (by (with_reducible repeat (first | refine blk_drewN ?_ _ | refine blk_drew ?_ | refine blk_alloc ?_ _)); exact BK101.out) hb)
                 have n1_ := Aside0.mk (blk_below (g := gb104) (o := .cells #[.int .u64 ((rd_T59 l1_2 x31_2).f0), .int .i64 ((rd_T59 l1_2 x31_2).f1)] 59 (0, 0)) (by (with_reducible repeat (first | refine blk_drewN ?_ _ | refine blk_drew ?_ | refine blk_alloc ?_ _)); exact BK104.out) hb)
                 have n2_ := Aside0.mk (below_step (by repeat (first | (with_reducible first | exact HB.out | apply below_alloc | apply pw_below_drewN | apply below_drew1 | refine below_set ?_ GE101.out | refine below_set ?_ GE104.out) | exact HB.out)) hb)
                 clear BK101
                 clear BK104
                 clear HB
                 have BK101 := n0_
                 have BK104 := n1_
                 have HB := n2_
                 clear n0_ n1_ n2_
                 (try clear hb)
                 (try clear hb2)
                 (try clear hk)
                 (try clear hi)
                 refine hK.out _ _ ⟨(blk_cell BK104.out 0).trans rfl, (blk_cell BK104.out 1).trans rfl, (blk_cell BK101.out 0).trans rfl, (blk_cell BK101.out 1).trans rfl, (blk_cell BK101.out 2).trans rfl, ((HB.out.cell (World.block_lt_of_cell? w _ hw105_0)).trans hw105_0), ((HB.out.cell (World.block_lt_of_cell? w _ hw105_1)).trans hw105_1)⟩ (fun hHeld => ?_)
                 clear hK K
                 refine norm_ (a' := ?_) ?_ ?_
                 rotate_left
                 ·show Act.put _ (some 61) _ = _
                  simp only [Act.put, zA, zB, zC, i64_w, i32_w]
                  rfl
                 refine pure_ (i := 18) (N := some 62) (v := ?_) (a' := ?_) #[true, true, true, true, true, true, true, true, true, true, true, true, true, true, true, true, true, true, true, false, false] rfl rfl (any_of HT_.out (by kernel_rfl)) (fun _ _ _ h => h) (Or.inl ⟨by rfl, ?_⟩) ?_ ?_
                 rotate_left
                 ·intro w'
                  go_simp
                  with_reducible rfl
                 rotate_left
                 ·simp only [Act.put, zA, zB, zC, i64_w, i32_w]
                  rfl
                 refine pure_ (i := 19) (N := some 63) (v := ?_) (a' := ?_) #[true, true, true, true, true, true, true, true, true, true, true, true, true, true, true, true, true, true, true, true, false] rfl rfl (any_of HT_.out (by kernel_rfl)) (fun _ _ _ h => h) (Or.inl ⟨by rfl, ?_⟩) ?_ ?_
                 rotate_left
                 ·intro w'
                  go_simp
                  with_reducible rfl
                 rotate_left
                 ·simp only [Act.put, zA, zB, zC, i64_w, i32_w]
                  rfl
                 refine pure_ (i := 20) (N := some 64) (v := ?_) (a' := ?_) #[true, true, true, true, true, true, true, true, true, true, true, true, true, true, true, true, true, true, true, true, true] rfl rfl (any_of HT_.out (by kernel_rfl)) (fun _ _ _ h => h) (Or.inl ⟨by rfl, ?_⟩) ?_ ?_
                 rotate_left
                 ·intro w'
                  go_simp
                  with_reducible rfl
                 rotate_left
                 ·simp only [Act.put, zA, zB, zC, i64_w, i32_w]
                  rfl
                 refine done_ (done_of HT_.out (by kernel_rfl)) ?_
                 try go_wp2
                 go_meet
                 case rel => exact ⟨_, (!t106), (by first | rfl | (simp; done) | (simp [*]; done)), H', ⟨by have := HJ2.out; have := HK2.out; have := HJ15.out; first | omega | exact Nat.le_refl _⟩, ⟨by (with_reducible repeat (first | refine blk_drewN ?_ _ | refine blk_drew ?_ | refine blk_alloc ?_ _)); exact BK101.out⟩, ⟨by (with_reducible repeat (first | refine blk_drewN ?_ _ | refine blk_drew ?_ | refine blk_alloc ?_ _)); exact BK104.out⟩, ⟨by repeat (first | (with_reducible first | exact HB.out | apply below_alloc | apply pw_below_drewN | apply below_drew1 | refine below_set ?_ GE101.out | refine below_set ?_ GE104.out) | exact HB.out)⟩⟩
               ·rw [if_neg c30] at H
                exact absurd H (by simp)
              ·rw [if_neg c29] at H
               exact absurd H (by simp)
             ·rw [if_neg c27] at H
              have c27b0 : decide (0 < x31_2) = false := decide_eq_false c27
              clear c27
              (first | rw [c27b0] | (simp only [i64_w, i32_w]; rw [c27b0]) | skip)
              have H' := Aside0.mk H
              clear H
              try go_wp2
              have n0_ := Aside0.mk (blk_drew BK101.out)
              have n1_ := Aside0.mk (blk_drew BK104.out)
              have n2_ := Aside0.mk (below_drew1 HB.out)
              clear BK101
              clear BK104
              clear HB
              have BK101 := n0_
              have BK104 := n1_
              have HB := n2_
              clear n0_ n1_ n2_
              refine start_ (n := 21) (S := fun w' => True) (ds := []) #[false, false, false, false, false, false, false, false, false, false, false, false, false, false, false, false, false, false, false, false, false] (by kernel_rfl) rfl rfl trivial (fun hHeld => ?_); refine with_tabW proof_whole.tab9 proof_whole.bits9 (fun HT_ HW_ => ?_)
              generalize wc.drew = w36 at BK101 BK104 HB hHeld ⊢
              refine pure_ (i := 0) (N := some 44) (v := ?_) (a' := ?_) #[true, false, false, false, false, false, false, false, false, false, false, false, false, false, false, false, false, false, false, false, false] rfl rfl (any_of HT_.out (by kernel_rfl)) (fun _ _ _ h => h) (Or.inl ⟨by rfl, ?_⟩) ?_ ?_
              rotate_left
              ·intro w'
               go_simp
               with_reducible rfl
              rotate_left
              ·simp only [Act.put, zA, zB, zC, i64_w, i32_w]
               rfl
              refine pure_ (i := 1) (N := some 45) (v := ?_) (a' := ?_) #[true, true, false, false, false, false, false, false, false, false, false, false, false, false, false, false, false, false, false, false, false] rfl rfl (any_of HT_.out (by kernel_rfl)) (fun _ _ _ h => h) (Or.inl ⟨by rfl, ?_⟩) ?_ ?_
              rotate_left
              ·intro w'
               go_simp
               with_reducible rfl
              rotate_left
              ·simp only [Act.put, zA, zB, zC, i64_w, i32_w]
               rfl
              refine pure_ (i := 2) (N := some 46) (v := ?_) (a' := ?_) #[true, true, true, false, false, false, false, false, false, false, false, false, false, false, false, false, false, false, false, false, false] rfl rfl (any_of HT_.out (by kernel_rfl)) (fun _ _ _ h => h) (Or.inl ⟨by rfl, ?_⟩) ?_ ?_
              rotate_left
              ·intro w'
               go_simp
               with_reducible rfl
              rotate_left
              ·simp only [Act.put, zA, zB, zC, i64_w, i32_w]
               rfl
              refine pure_ (i := 3) (N := some 47) (v := undef) (a' := ?_) #[true, true, true, true, false, false, false, false, false, false, false, false, false, false, false, false, false, false, false, false, false] rfl rfl (any_of HT_.out (by kernel_rfl)) (fun _ _ _ h => h) (Or.inr ⟨by rfl, rfl⟩) ?_ ?_
              rotate_left
              ·simp only [Act.put, zA, zB, zC, i64_w, i32_w]
               rfl
              refine pure_ (i := 4) (N := some 48) (v := undef) (a' := ?_) #[true, true, true, true, true, false, false, false, false, false, false, false, false, false, false, false, false, false, false, false, false] rfl rfl (any_of HT_.out (by kernel_rfl)) (fun _ _ _ h => h) (Or.inr ⟨by rfl, rfl⟩) ?_ ?_
              rotate_left
              ·simp only [Act.put, zA, zB, zC, i64_w, i32_w]
               rfl
              refine pure_ (i := 5) (N := some 49) (v := undef) (a' := ?_) #[true, true, true, true, true, true, false, false, false, false, false, false, false, false, false, false, false, false, false, false, false] rfl rfl (any_of HT_.out (by kernel_rfl)) (fun _ _ _ h => h) (Or.inr ⟨by rfl, rfl⟩) ?_ ?_
              rotate_left
              ·simp only [Act.put, zA, zB, zC, i64_w, i32_w]
               rfl
              refine pure_ (i := 6) (N := some 50) (v := undef) (a' := ?_) #[true, true, true, true, true, true, true, false, false, false, false, false, false, false, false, false, false, false, false, false, false] rfl rfl (any_of HT_.out (by kernel_rfl)) (fun _ _ _ h => h) (Or.inr ⟨by rfl, rfl⟩) ?_ ?_
              rotate_left
              ·simp only [Act.put, zA, zB, zC, i64_w, i32_w]
               rfl
              refine pure_ (i := 7) (N := some 51) (v := undef) (a' := ?_) #[true, true, true, true, true, true, true, true, false, false, false, false, false, false, false, false, false, false, false, false, false] rfl rfl (any_of HT_.out (by kernel_rfl)) (fun _ _ _ h => h) (Or.inr ⟨by rfl, rfl⟩) ?_ ?_
              rotate_left
              ·simp only [Act.put, zA, zB, zC, i64_w, i32_w]
               rfl
              refine pure_ (i := 8) (N := some 52) (v := undef) (a' := ?_) #[true, true, true, true, true, true, true, true, true, false, false, false, false, false, false, false, false, false, false, false, false] rfl rfl (any_of HT_.out (by kernel_rfl)) (fun _ _ _ h => h) (Or.inr ⟨by rfl, rfl⟩) ?_ ?_
              rotate_left
              ·simp only [Act.put, zA, zB, zC, i64_w, i32_w]
               rfl
              refine pure_ (i := 9) (N := some 53) (v := undef) (a' := ?_) #[true, true, true, true, true, true, true, true, true, true, false, false, false, false, false, false, false, false, false, false, false] rfl rfl (any_of HT_.out (by kernel_rfl)) (fun _ _ _ h => h) (Or.inr ⟨by rfl, rfl⟩) ?_ ?_
              rotate_left
              ·simp only [Act.put, zA, zB, zC, i64_w, i32_w]
               rfl
              refine pure_ (i := 10) (N := some 54) (v := undef) (a' := ?_) #[true, true, true, true, true, true, true, true, true, true, true, false, false, false, false, false, false, false, false, false, false] rfl rfl (any_of HT_.out (by kernel_rfl)) (fun _ _ _ h => h) (Or.inr ⟨by rfl, rfl⟩) ?_ ?_
              rotate_left
              ·simp only [Act.put, zA, zB, zC, i64_w, i32_w]
               rfl
              refine pure_ (i := 11) (N := some 55) (v := undef) (a' := ?_) #[true, true, true, true, true, true, true, true, true, true, true, true, false, false, false, false, false, false, false, false, false] rfl rfl (any_of HT_.out (by kernel_rfl)) (fun _ _ _ h => h) (Or.inr ⟨by rfl, rfl⟩) ?_ ?_
              rotate_left
              ·simp only [Act.put, zA, zB, zC, i64_w, i32_w]
               rfl
              refine pure_ (i := 12) (N := some 56) (v := undef) (a' := ?_) #[true, true, true, true, true, true, true, true, true, true, true, true, true, false, false, false, false, false, false, false, false] rfl rfl (any_of HT_.out (by kernel_rfl)) (fun _ _ _ h => h) (Or.inr ⟨by rfl, rfl⟩) ?_ ?_
              rotate_left
              ·simp only [Act.put, zA, zB, zC, i64_w, i32_w]
               rfl
              refine pure_ (i := 13) (N := some 57) (v := undef) (a' := ?_) #[true, true, true, true, true, true, true, true, true, true, true, true, true, true, false, false, false, false, false, false, false] rfl rfl (any_of HT_.out (by kernel_rfl)) (fun _ _ _ h => h) (Or.inr ⟨by rfl, rfl⟩) ?_ ?_
              rotate_left
              ·simp only [Act.put, zA, zB, zC, i64_w, i32_w]
               rfl
              refine pure_ (i := 14) (N := some 58) (v := undef) (a' := ?_) #[true, true, true, true, true, true, true, true, true, true, true, true, true, true, true, false, false, false, false, false, false] rfl rfl (any_of HT_.out (by kernel_rfl)) (fun _ _ _ h => h) (Or.inr ⟨by rfl, rfl⟩) ?_ ?_
              rotate_left
              ·simp only [Act.put, zA, zB, zC, i64_w, i32_w]
               rfl
              refine pure_ (i := 15) (N := some 59) (v := undef) (a' := ?_) #[true, true, true, true, true, true, true, true, true, true, true, true, true, true, true, true, false, false, false, false, false] rfl rfl (any_of HT_.out (by kernel_rfl)) (fun _ _ _ h => h) (Or.inr ⟨by rfl, rfl⟩) ?_ ?_
              rotate_left
              ·simp only [Act.put, zA, zB, zC, i64_w, i32_w]
               rfl
              refine pure_ (i := 16) (N := some 60) (v := undef) (a' := ?_) #[true, true, true, true, true, true, true, true, true, true, true, true, true, true, true, true, true, false, false, false, false] rfl rfl (any_of HT_.out (by kernel_rfl)) (fun _ _ _ h => h) (Or.inr ⟨by rfl, rfl⟩) ?_ ?_
              rotate_left
              ·simp only [Act.put, zA, zB, zC, i64_w, i32_w]
               rfl
              refine pure_ (i := 17) (N := some 61) (v := undef) (a' := ?_) #[true, true, true, true, true, true, true, true, true, true, true, true, true, true, true, true, true, true, false, false, false] rfl rfl (any_of HT_.out (by kernel_rfl)) (fun _ _ _ h => h) (Or.inr ⟨by rfl, rfl⟩) ?_ ?_
              rotate_left
              ·simp only [Act.put, zA, zB, zC, i64_w, i32_w]
               rfl
              refine pure_ (i := 18) (N := some 62) (v := undef) (a' := ?_) #[true, true, true, true, true, true, true, true, true, true, true, true, true, true, true, true, true, true, true, false, false] rfl rfl (any_of HT_.out (by kernel_rfl)) (fun _ _ _ h => h) (Or.inr ⟨by rfl, rfl⟩) ?_ ?_
              rotate_left
              ·simp only [Act.put, zA, zB, zC, i64_w, i32_w]
               rfl
              refine pure_ (i := 19) (N := some 63) (v := undef) (a' := ?_) #[true, true, true, true, true, true, true, true, true, true, true, true, true, true, true, true, true, true, true, true, false] rfl rfl (any_of HT_.out (by kernel_rfl)) (fun _ _ _ h => h) (Or.inr ⟨by rfl, rfl⟩) ?_ ?_
              rotate_left
              ·simp only [Act.put, zA, zB, zC, i64_w, i32_w]
               rfl
              refine pure_ (i := 20) (N := some 64) (v := ?_) (a' := ?_) #[true, true, true, true, true, true, true, true, true, true, true, true, true, true, true, true, true, true, true, true, true] rfl rfl (any_of HT_.out (by kernel_rfl)) (fun _ _ _ h => h) (Or.inl ⟨by rfl, ?_⟩) ?_ ?_
              rotate_left
              ·intro w'
               go_simp
               with_reducible rfl
              rotate_left
              ·simp only [Act.put, zA, zB, zC, i64_w, i32_w]
               rfl
              refine done_ (done_of HT_.out (by kernel_rfl)) ?_
              try go_wp2
              go_meet
              case rel => exact ⟨_, (false), (by first | rfl | (simp; done) | (simp [*]; done)), H', ⟨by have := HJ2.out; have := HK2.out; have := HJ15.out; first | omega | exact Nat.le_refl _⟩, ⟨by (with_reducible repeat (first | refine blk_drewN ?_ _ | refine blk_drew ?_ | refine blk_alloc ?_ _)); exact BK101.out⟩, ⟨by (with_reducible repeat (first | refine blk_drewN ?_ _ | refine blk_drew ?_ | refine blk_alloc ?_ _)); exact BK104.out⟩, ⟨by repeat (first | (with_reducible first | exact HB.out | apply below_alloc | apply pw_below_drewN | apply below_drew1 | refine below_set ?_ GE101.out | refine below_set ?_ GE104.out) | exact HB.out)⟩⟩
            case rest =>
             clear HC26
             try clear c1
             try clear p1
             try clear q1
             try clear hx1
             try clear c2
             try clear p2
             try clear c3
             try clear c5
             try clear p6
             try clear p10
             try clear q10
             try clear hx10
             try clear c25
             try clear c27
             try clear c27b0
             try clear c29
             try clear c29b0
             try clear c30
             try clear c30b0
             try clear c31
             try clear c31b0
             try clear hfz6_0
             try clear hfz6_1
             try clear hfz6_2
             try clear hfz8_0
             try clear hfz8_1
             try clear hfz8_2
             try clear hx102_0
             try clear hx102_1
             try clear hx103_0
             try clear hx103_1
             try clear hx105_0
             try clear hx105_1
             try clear p1
             try clear p10
             try clear p102
             try clear p103
             try clear p105
             try clear p2
             try clear q1
             try clear q10
             try clear q102
             try clear q103
             try clear q105
             obtain ⟨kq, x64_25, rfl, HA, HJ25, BK101, BK104, HB⟩ := hcut
             cases kq with
             | zero => exact absurd HA.out (by simp [proof_whole.j3])
             | succ kj25 =>
              have H := HA.out
              clear HA
              simp only [proof_whole.j3] at H
              by_cases c37 : x64_25 = true
              ·subst c37
               have H1 : (some false) = some r := by rw [if_pos rfl] at H <;> exact H
               clear H
               have H := H1
               clear H1
               obtain rfl := Option.some.inj H
               go_wp2
               go_ret
               exact ⟨by first | rfl | (simp [errW_none, errW_some] <;> rfl) | (simp [*, errW_none, errW_some] <;> rfl), by repeat (first | (with_reducible first | exact HB.out | apply below_alloc | apply pw_below_drewN | apply below_drew1 | refine below_set ?_ GE101.out | refine below_set ?_ GE104.out) | exact HB.out)⟩
              ·replace c37 := Bool.eq_false_iff.mpr c37
               subst c37
               have H1 : (proof_whole.l1 kj25 l0 x5_2 l1_2 (l1_2.length : Int) x31_2 ((rd_T59 l1_2 x31_2).f1) 0 a1_0 a1_1 l1_2 ((rd_T59 l1_2 x31_2).f0) ((rd_T59 l1_2 x31_2).f1)) = some r := by rw [if_neg (show ¬ (false = true) by decide)] at H <;> exact H
               clear H
               have H := H1
               clear H1
               have H' := Aside0.mk H
               clear H
               have hnb38 := NB104_101.out
               have hnc38 := NB101_104.out
               have hcz39_0 : wc.cell? ⟨gb104, 0, none⟩ = some (.int .u64 ((rd_T59 l1_2 x31_2).f0)) := (blk_cell BK104.out 0).trans rfl
               have hcz39_1 : wc.cell? ⟨gb104, 1, none⟩ = some (.int .i64 ((rd_T59 l1_2 x31_2).f1)) := (blk_cell BK104.out 1).trans rfl
               have hfz39_0 := blk_frozen BK104.out 0
               have hfz39_1 := blk_frozen BK104.out 1
               go_wp2
               go_loopg [5, 67] kj25 (fun kq v5 v67 w' => ∃ (x5_5 : Int) (x67_5 : Int), v5 = .int .u64 x5_5 ∧ v67 = .int .i64 x67_5 ∧ Aside0 (proof_whole.l1 kq l0 x5_5 l1_2 (l1_2.length : Int) x31_2 ((rd_T59 l1_2 x31_2).f1) x67_5 a1_0 a1_1 l1_2 ((rd_T59 l1_2 x31_2).f0) ((rd_T59 l1_2 x31_2).f1) = some r) ∧ Aside0 (kq ≤ kj25) ∧ Aside0 (w'.heap[gb101]? = some (.cells #[.int .u64 a1_0, .int .u64 a1_1, (.slice (some ad103) l1_2.length c1_2)] 54 (0, 0))) ∧ Aside0 (w'.heap[gb104]? = some (.cells #[.int .u64 ((rd_T59 l1_2 x31_2).f0), .int .i64 ((rd_T59 l1_2 x31_2).f1)] 59 (0, 0))) ∧ Aside0 (Below w.heap.size w w'))
               case atStart => exact ⟨(x5_2), (0), (by first | rfl | (simp; done) | (simp [*]; done)), (by first | rfl | (simp; done) | (simp [*]; done)), H', ⟨Nat.le_refl _⟩, ⟨by (with_reducible repeat (first | refine blk_drewN ?_ _ | refine blk_drew ?_ | refine blk_alloc ?_ _)); exact BK101.out⟩, ⟨by (with_reducible repeat (first | refine blk_drewN ?_ _ | refine blk_drew ?_ | refine blk_alloc ?_ _)); exact BK104.out⟩, ⟨by repeat (first | (with_reducible first | exact HB.out | apply below_alloc | apply pw_below_drewN | apply below_drew1 | refine below_set ?_ GE101.out | refine below_set ?_ GE104.out) | exact HB.out)⟩⟩
               case round =>
                clear H'
                try clear c1
                try clear p1
                try clear q1
                try clear hx1
                try clear c2
                try clear p2
                try clear c3
                try clear c5
                try clear p6
                try clear p10
                try clear q10
                try clear hx10
                try clear c25
                try clear c27
                try clear c27b0
                try clear c29
                try clear c29b0
                try clear c30
                try clear c30b0
                try clear c31
                try clear c31b0
                try clear c37
                try clear c38
                try clear hcz39_0
                try clear hcz39_1
                try clear hfz39_0
                try clear hfz39_1
                try clear hfz6_0
                try clear hfz6_1
                try clear hfz6_2
                try clear hfz8_0
                try clear hfz8_1
                try clear hfz8_2
                try clear hx102_0
                try clear hx102_1
                try clear hx103_0
                try clear hx103_1
                try clear hx105_0
                try clear hx105_1
                try clear p1
                try clear p10
                try clear p102
                try clear p103
                try clear p105
                try clear p2
                try clear p6
                try clear q1
                try clear q10
                try clear q102
                try clear q103
                try clear q105
                obtain ⟨x5_5, x67_5, rfl, rfl, HA, HK5, BK101, BK104, HB⟩ := hrel
                cases gk with
                | zero => exact absurd HA.out (by simp [proof_whole.l1])
                | succ k5 =>
                 have H := HA.out
                 clear HA
                 simp only [proof_whole.l1] at H
                 by_cases c40 : x67_5 < ((rd_T59 l1_2 x31_2).f1)
                 ·rw [if_pos c40] at H
                  have c40b0 : decide (x67_5 < ((rd_T59 l1_2 x31_2).f1)) = true := decide_eq_true c40
                  clear c40
                  replace H := Option.bind_eq_some_iff.mp H
                  obtain ⟨⟨t107, t108⟩, A410, H⟩ := H
                  replace H : (if t107 > 0 then (some false) else (proof_whole.l1 k5 l0 t108 l1_2 (l1_2.length : Int) x31_2 ((rd_T59 l1_2 x31_2).f1) (wrap64 (x67_5 + 1)) a1_0 a1_1 l1_2 ((rd_T59 l1_2 x31_2).f0) ((rd_T59 l1_2 x31_2).f1))) = some r := H
                  have A41 := Aside0.mk A410
                  clear A410
                  by_cases c42 : t107 > 0
                  ·rw [if_pos c42] at H
                   have c42b0 : decide (0 < t107) = true := decide_eq_true c42
                   clear c42
                   obtain rfl := Option.some.inj H
                   have hnb43 := NB104_101.out
                   have hnc43 := NB101_104.out
                   have hcz44_0 : wr.cell? ⟨gb104, 0, none⟩ = some (.int .u64 ((rd_T59 l1_2 x31_2).f0)) := (blk_cell BK104.out 0).trans rfl
                   have hcz44_1 : wr.cell? ⟨gb104, 1, none⟩ = some (.int .i64 ((rd_T59 l1_2 x31_2).f1)) := (blk_cell BK104.out 1).trans rfl
                   have hfz44_0 := blk_frozen BK104.out 0
                   have hfz44_1 := blk_frozen BK104.out 1
                   go_wp2_with (first | ((with_reducible refine gate_callee (f := 40) rfl ?_); refine goesL_ (some 73) rfl rfl Try.func40 (by kernel_rfl) rfl #[.int .u64 x5_5, .int .u64 ((rd_T59 l1_2 x31_2).f0)] rfl (by (try simp only [List.map_toArray, List.map_cons, List.map_nil]); first | done | rfl | (simp only [List.length_drop, List.length_take]; rfl)) ?_; (with_reducible refine (bits_Mul64.calls x5_5 ((rd_T59 l1_2 x31_2).f0) t107 t108 _ A41.out).mono ?_); rintro e w' ⟨rfl, ⟨nd, rfl⟩⟩; refine ⟨_, rfl, ?_⟩))
                   go_ret
                   exact ⟨by first | rfl | (simp [errW_none, errW_some] <;> rfl) | (simp [*, errW_none, errW_some] <;> rfl), by repeat (first | (with_reducible first | exact HB.out | apply below_alloc | apply pw_below_drewN | apply below_drew1 | refine below_set ?_ GE101.out | refine below_set ?_ GE104.out) | exact HB.out)⟩
                  ·rw [if_neg c42] at H
                   have c42b0 : decide (0 < t107) = false := decide_eq_false c42
                   clear c42
                   have H' := Aside0.mk H
                   clear H
                   have hnb45 := NB104_101.out
                   have hnc45 := NB101_104.out
                   have hcz46_0 : wr.cell? ⟨gb104, 0, none⟩ = some (.int .u64 ((rd_T59 l1_2 x31_2).f0)) := (blk_cell BK104.out 0).trans rfl
                   have hcz46_1 : wr.cell? ⟨gb104, 1, none⟩ = some (.int .i64 ((rd_T59 l1_2 x31_2).f1)) := (blk_cell BK104.out 1).trans rfl
                   have hfz46_0 := blk_frozen BK104.out 0
                   have hfz46_1 := blk_frozen BK104.out 1
                   go_wp2_with (first | ((with_reducible refine gate_callee (f := 40) rfl ?_); refine goesL_ (some 73) rfl rfl Try.func40 (by kernel_rfl) rfl #[.int .u64 x5_5, .int .u64 ((rd_T59 l1_2 x31_2).f0)] rfl (by (try simp only [List.map_toArray, List.map_cons, List.map_nil]); first | done | rfl | (simp only [List.length_drop, List.length_take]; rfl)) ?_; (with_reducible refine (bits_Mul64.calls x5_5 ((rd_T59 l1_2 x31_2).f0) t107 t108 _ A41.out).mono ?_); rintro e w' ⟨rfl, ⟨nd, rfl⟩⟩; refine ⟨_, rfl, ?_⟩))
                   go_roundg k5
                   case measure => have := HJ2.out; have := HK2.out; have := HJ15.out; have := HJ25.out; have := HK5.out; omega
                   case rel => exact ⟨(t108), (wrap64 (x67_5 + 1)), (by first | rfl | (simp; done) | (simp [*]; done)), (by first | rfl | (simp; done) | (simp [*]; done)), H', ⟨by have := HJ2.out; have := HK2.out; have := HJ15.out; have := HJ25.out; have := HK5.out; omega⟩, ⟨by (with_reducible repeat (first | refine blk_drewN ?_ _ | refine blk_drew ?_ | refine blk_alloc ?_ _)); exact BK101.out⟩, ⟨by (with_reducible repeat (first | refine blk_drewN ?_ _ | refine blk_drew ?_ | refine blk_alloc ?_ _)); exact BK104.out⟩, ⟨by repeat (first | (with_reducible first | exact HB.out | apply below_alloc | apply pw_below_drewN | apply below_drew1 | refine below_set ?_ GE101.out | refine below_set ?_ GE104.out) | exact HB.out)⟩⟩
                 ·rw [if_neg c40] at H
                  have c40b0 : decide (x67_5 < ((rd_T59 l1_2 x31_2).f1)) = false := decide_eq_false c40
                  clear c40
                  have H' := Aside0.mk H
                  clear H
                  go_wp2
                  go_roundg k5
                  case measure => have := HJ2.out; have := HK2.out; have := HJ15.out; have := HJ25.out; have := HK5.out; omega
                  case rel => exact ⟨(x5_5), (wrap64 (x31_2 + 1)), (by first | rfl | (simp; done) | (simp [*]; done)), (by first | rfl | (simp; done) | (simp [*]; done)), H', ⟨by have := HJ2.out; have := HK2.out; have := HJ15.out; have := HJ25.out; have := HK5.out; omega⟩, ⟨by (with_reducible repeat (first | refine blk_drewN ?_ _ | refine blk_drew ?_ | refine blk_alloc ?_ _)); exact BK101.out⟩, ⟨by repeat (first | (with_reducible first | exact HB.out | apply below_alloc | apply pw_below_drewN | apply below_drew1 | refine below_set ?_ GE101.out | refine below_set ?_ GE104.out) | exact HB.out)⟩⟩
        ·rw [if_neg c15] at H
         exact absurd H (by simp)
       ·rw [if_neg c14] at H
        exact absurd H (by simp)
      ·rw [if_neg c13] at H
       have c13b0 : decide (x31_2 < (l1_2.length : Int)) = false := decide_eq_false c13
       clear c13
       obtain rfl := Option.some.inj H
       have hcz47_0 : wr.cell? ⟨gb101, 0, none⟩ = some (.int .u64 a1_0) := (blk_cell BK101.out 0).trans rfl
       have hcz47_1 : wr.cell? ⟨gb101, 1, none⟩ = some (.int .u64 a1_1) := (blk_cell BK101.out 1).trans rfl
       have hcz47_2 : wr.cell? ⟨gb101, 2, none⟩ = some (.slice A1_2 l1_2.length c1_2) := (blk_cell BK101.out 2).trans rfl
       have hfz47_0 := blk_frozen BK101.out 0
       have hfz47_1 := blk_frozen BK101.out 1
       have hfz47_2 := blk_frozen BK101.out 2
       go_wp2
       go_ret
       exact ⟨by first | rfl | (simp [errW_none, errW_some] <;> rfl) | (simp [*, errW_none, errW_some] <;> rfl), by repeat (first | (with_reducible first | exact HB.out | apply below_alloc | apply pw_below_drewN | apply below_drew1 | refine below_set ?_ GE101.out) | exact HB.out)⟩

end Go.Proofs.Ytcnnaciilphadaa.XP
