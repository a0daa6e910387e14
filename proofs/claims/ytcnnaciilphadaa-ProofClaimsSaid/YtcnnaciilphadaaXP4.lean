-- thinned
-- Printed by a program of this session (wip/tools/mkprint.py) out of the translation.
import Derived.Test.YtcnnaciilphadaaXP0
import Derived.Test.YtcnnaciilphadaaGiven
import Derived.Test.YtcnnaciilphadaaGiven04
namespace Go.Proofs.Ytcnnaciilphadaa.XP
open Go.RowKit Go.Proofs.Ytcnnaciilphadaa.Given Go.Proofs.Ytcnnaciilphadaa.Given04 Go.Proofs.YtcnnaciilphadaaW.PrintWords Go.Proofs.YtcnnaciilphadaaW.PrintLast Go.Proofs.YtcnnaciilphadaaW.PrintMore
attribute [local go_sem] max2_int min2_int max_two min_two max_three min_three max_four min_four   -- for this text's walks alone
set_option linter.unusedVariables false
set_option linter.unusedSimpArgs false

/-! ### epicyclelaw04_great: function 33 -/
def epicyclelaw04_great.l0 : Nat → List (S46) → Int → Int → Option (Bool)
 | 0, _, _, _ => none
 | k + 1, x8, x9, x10 => if x10 < x9 then (if 0 ≤ x10 then (if x10 < (x8.length : Int) then (if (((rd_T46 x8 x10).f2).length : Int) > 20 then (some true) else (epicyclelaw04_great.l0 k x8 x9 (wrap64 (x10 + 1)))) else (none)) else (none)) else (some false)
def epicyclelaw04_great.f (k : Nat) (l0 : List (S46)) : Option (Bool) := if (l0.length : Int) > 40 then (some true) else (epicyclelaw04_great.l0 k l0 (l0.length : Int) 0)
theorem epicyclelaw04_great.mono_l : ∀ k, (∀ y0 y1 y2, LeO (epicyclelaw04_great.l0 k y0 y1 y2) (epicyclelaw04_great.l0 (k + 1) y0 y1 y2))
 | 0 => fun _ _ _ r h => by simp [epicyclelaw04_great.l0] at h
 | k + 1 => by
  have ih0 := epicyclelaw04_great.mono_l k
  ·intro y0 y1 y2
   unfold epicyclelaw04_great.l0
   repeat' first
   | (with_reducible exact ih0 _ _ _)
   | (with_reducible exact LeO.refl _)
   | (with_reducible exact LeO.none _)
   | (with_reducible refine LeO.ite ?_ ?_)
   | (with_reducible refine LeO.bind ?_ (fun _ => ?_))
   | exact ih0 _ _ _
   | exact LeO.none _
   | refine LeO.ite ?_ ?_
   | refine LeO.bind ?_ (fun _ => ?_)
theorem epicyclelaw04_great.mono : ∀ a0 k, LeO (epicyclelaw04_great.f k a0) (epicyclelaw04_great.f (k + 1) a0) := by
 intro a0 k
 have ih0 := epicyclelaw04_great.mono_l k
 unfold epicyclelaw04_great.f
 repeat' first
   | (with_reducible exact ih0 _ _ _)
   | (with_reducible exact LeO.refl _)
   | (with_reducible exact LeO.none _)
   | (with_reducible refine LeO.ite ?_ ?_)
   | (with_reducible refine LeO.bind ?_ (fun _ => ?_))
   | exact ih0 _ _ _
   | exact LeO.none _
   | refine LeO.ite ?_ ?_
   | refine LeO.bind ?_ (fun _ => ?_)
set_option maxHeartbeats 8000000 in
set_option maxRecDepth 100000 in
theorem epicyclelaw04_great.calls (k : Nat) (A0 : Option Addr) (c0 : Nat) (l0 : List (S46)) (r : Bool) (w : World) (hr0 : Kd.C k46 w A0 l0.length l0) (hc0 : l0.length ≤ c0) (h : epicyclelaw04_great.f k l0 = some r) :
  Calls Try.prog 33 #[.slice A0 l0.length c0] w fun e w' => e = .returned (.bool r) ∧ Below w.heap.size w w' := by
 have hu46 := Try.underlying46
 have HR0 := Aside0.mk hr0
 have HC0 := Aside0.mk hc0
 clear hr0 hc0
 have HB := Aside0.mk (Below.refl w.heap.size w)
 have H : (if (l0.length : Int) > 40 then (some true) else (epicyclelaw04_great.l0 k l0 (l0.length : Int) 0)) = some r := h
 clear h
 by_cases c2 : (l0.length : Int) > 40
 ·rw [if_pos c2] at H
  have c2b0 : decide (40 < (l0.length : Int)) = true := decide_eq_true c2
  have c2b1 : decide (40 < l0.length) = true := decide_eq_true (by omega)
  clear c2
  obtain rfl := Option.some.inj H
  go_enter Try.func33, Try.ntmps33
  go_wp2
  go_ret
  exact ⟨by first | rfl | (simp [errW_none, errW_some] <;> rfl) | (simp [*, errW_none, errW_some] <;> rfl), by repeat (first | (with_reducible first | exact HB.out | apply below_alloc | apply pw_below_drewN | apply below_drew1) | exact HB.out)⟩
 ·rw [if_neg c2] at H
  have c2b0 : decide (40 < (l0.length : Int)) = false := decide_eq_false c2
  have c2b1 : decide (40 < l0.length) = false := decide_eq_false (by omega)
  clear c2
  have H' := Aside0.mk H
  clear H
  go_enter Try.func33, Try.ntmps33
  go_wp2
  go_loopg [10] k (fun kq v10 w' => ∃ (x10_1 : Int), v10 = .int .i64 x10_1 ∧ Aside0 (epicyclelaw04_great.l0 kq l0 (l0.length : Int) x10_1 = some r) ∧ Aside0 (kq ≤ k) ∧ Aside0 (Below w.heap.size w w'))
  case atStart => exact ⟨(0), (by first | rfl | (simp; done) | (simp [*]; done)), H', ⟨Nat.le_refl _⟩, ⟨by repeat (first | (with_reducible first | exact HB.out | apply below_alloc | apply pw_below_drewN | apply below_drew1) | exact HB.out)⟩⟩
  case round =>
   clear H'
   try clear c2
   try clear c2b0
   try clear c2b1
   try clear p2
   obtain ⟨x10_1, rfl, HA, HK1, HB⟩ := hrel
   cases gk with
   | zero => exact absurd HA.out (by simp [epicyclelaw04_great.l0])
   | succ k1 =>
    have H := HA.out
    clear HA
    simp only [epicyclelaw04_great.l0] at H
    by_cases c3 : x10_1 < (l0.length : Int)
    ·rw [if_pos c3] at H
     have c3b0 : decide (x10_1 < (l0.length : Int)) = true := decide_eq_true c3
     clear c3
     by_cases c4 : 0 ≤ x10_1
     ·rw [if_pos c4] at H
      have c4b0 : decide (0 ≤ x10_1) = true := decide_eq_true c4
      clear c4
      by_cases c5 : x10_1 < (l0.length : Int)
      ·rw [if_pos c5] at H
       have c5b0 : decide (x10_1 < (l0.length : Int)) = true := decide_eq_true c5
       clear c5
       by_cases c6 : (((rd_T46 l0 x10_1).f2).length : Int) > 20
       ·rw [if_pos c6] at H
        have c6b0 : decide (20 < (((rd_T46 l0 x10_1).f2).length : Int)) = true := decide_eq_true c6
        have c6b1 : decide (20 < ((rd_T46 l0 x10_1).f2).length) = true := decide_eq_true (by omega)
        clear c6
        obtain rfl := Option.some.inj H
        have p138 : 0 ≤ (x10_1 : Int) := of_decide_eq_true (by first | (with_reducible assumption) | assumption)
        have q138 : x10_1 < (l0.length : Int) := of_decide_eq_true (by first | (with_reducible assumption) | assumption)
        obtain ⟨ad138, A138_2, c138_2, e138, hx138_0, hx138_1, hx138_2, hl138_2, hi138_2⟩ := at_T46 HR0.out x10_1 p138 q138
        cases e138
        replace hx138_0 := (HB.out.cell (World.block_lt_of_cell? w _ hx138_0)).trans hx138_0
        replace hx138_1 := (HB.out.cell (World.block_lt_of_cell? w _ hx138_1)).trans hx138_1
        replace hx138_2 := (HB.out.cell (World.block_lt_of_cell? w _ hx138_2)).trans hx138_2
        have HR138_2 := Aside0.mk hi138_2
        have HC138_2 := Aside0.mk hl138_2
        clear hi138_2 hl138_2
        replace p138 := eq_true p138
        replace q138 := eq_true q138
        go_wp2_with (first | ((with_reducible refine gate_dst (N := 4) rfl ?_); refine box_event ?hg (N := 4) ?hd (cs := #[.int .u64 0, .int .u64 0, .slice none 0 0]) (t := 46) ?hr ?_; (case hd => rfl); (case hg => rfl); (case hr => first | (go_simp; done) | (go_simp; rfl)); intro gb139 hg w7 hbox hb; have n0_ := Aside0.mk (below_step (by repeat (first | (with_reducible first | exact HB.out | apply below_alloc | apply pw_below_drewN | apply below_drew1) | exact HB.out)) hb); have n1_ := Aside0.mk (hbox); have n2_ := Aside0.mk ((by rw [hg]; exact (below_size (by repeat (first | (with_reducible first | exact HB.out | apply below_alloc | apply pw_below_drewN | apply below_drew1) | exact HB.out))) : w.heap.size ≤ gb139)); have n3_ := Aside0.mk ((by rw [hg]; exact (below_size (by repeat (first | (with_reducible first | exact HB.out | apply below_alloc | apply pw_below_drewN | apply below_drew1) | exact HB.out))) : w.heap.size ≤ gb139)); clear HB; have HB := n0_; have BK139 := n1_; have GW139 := n2_; have GE139 := n3_; clear n0_ n1_ n2_ n3_; clear hb hbox hg; have hcz8_0 : w7.cell? ⟨gb139, 0, none⟩ = some (.int .u64 0) := (blk_cell BK139.out 0).trans rfl; have hcz8_1 : w7.cell? ⟨gb139, 1, none⟩ = some (.int .u64 0) := (blk_cell BK139.out 1).trans rfl; have hcz8_2 : w7.cell? ⟨gb139, 2, none⟩ = some (.slice none 0 0) := (blk_cell BK139.out 2).trans rfl; have hfz8_0 := blk_frozen BK139.out 0; have hfz8_1 := blk_frozen BK139.out 1; have hfz8_2 := blk_frozen BK139.out 2))
        go_ret
        exact ⟨by first | rfl | (simp [errW_none, errW_some] <;> rfl) | (simp [*, errW_none, errW_some] <;> rfl), by repeat (first | (with_reducible first | exact HB.out | apply below_alloc | apply pw_below_drewN | apply below_drew1 | refine below_set ?_ GE139.out) | exact HB.out)⟩
       ·rw [if_neg c6] at H
        have c6b0 : decide (20 < (((rd_T46 l0 x10_1).f2).length : Int)) = false := decide_eq_false c6
        have c6b1 : decide (20 < ((rd_T46 l0 x10_1).f2).length) = false := decide_eq_false (by omega)
        clear c6
        have H' := Aside0.mk H
        clear H
        have p138 : 0 ≤ (x10_1 : Int) := of_decide_eq_true (by first | (with_reducible assumption) | assumption)
        have q138 : x10_1 < (l0.length : Int) := of_decide_eq_true (by first | (with_reducible assumption) | assumption)
        obtain ⟨ad138, A138_2, c138_2, e138, hx138_0, hx138_1, hx138_2, hl138_2, hi138_2⟩ := at_T46 HR0.out x10_1 p138 q138
        cases e138
        replace hx138_0 := (HB.out.cell (World.block_lt_of_cell? w _ hx138_0)).trans hx138_0
        replace hx138_1 := (HB.out.cell (World.block_lt_of_cell? w _ hx138_1)).trans hx138_1
        replace hx138_2 := (HB.out.cell (World.block_lt_of_cell? w _ hx138_2)).trans hx138_2
        have HR138_2 := Aside0.mk hi138_2
        have HC138_2 := Aside0.mk hl138_2
        clear hi138_2 hl138_2
        replace p138 := eq_true p138
        replace q138 := eq_true q138
        go_wp2_with (first | ((with_reducible refine gate_dst (N := 4) rfl ?_); refine box_event ?hg (N := 4) ?hd (cs := #[.int .u64 0, .int .u64 0, .slice none 0 0]) (t := 46) ?hr ?_; (case hd => rfl); (case hg => rfl); (case hr => first | (go_simp; done) | (go_simp; rfl)); intro gb139 hg w9 hbox hb; have n0_ := Aside0.mk (below_step (by repeat (first | (with_reducible first | exact HB.out | apply below_alloc | apply pw_below_drewN | apply below_drew1) | exact HB.out)) hb); have n1_ := Aside0.mk (hbox); have n2_ := Aside0.mk ((by rw [hg]; exact (below_size (by repeat (first | (with_reducible first | exact HB.out | apply below_alloc | apply pw_below_drewN | apply below_drew1) | exact HB.out))) : w.heap.size ≤ gb139)); have n3_ := Aside0.mk ((by rw [hg]; exact (below_size (by repeat (first | (with_reducible first | exact HB.out | apply below_alloc | apply pw_below_drewN | apply below_drew1) | exact HB.out))) : w.heap.size ≤ gb139)); clear HB; have HB := n0_; have BK139 := n1_; have GW139 := n2_; have GE139 := n3_; clear n0_ n1_ n2_ n3_; clear hb hbox hg; have hcz10_0 : w9.cell? ⟨gb139, 0, none⟩ = some (.int .u64 0) := (blk_cell BK139.out 0).trans rfl; have hcz10_1 : w9.cell? ⟨gb139, 1, none⟩ = some (.int .u64 0) := (blk_cell BK139.out 1).trans rfl; have hcz10_2 : w9.cell? ⟨gb139, 2, none⟩ = some (.slice none 0 0) := (blk_cell BK139.out 2).trans rfl; have hfz10_0 := blk_frozen BK139.out 0; have hfz10_1 := blk_frozen BK139.out 1; have hfz10_2 := blk_frozen BK139.out 2))
        go_roundg k1
        case measure => have := HK1.out; omega
        case rel => exact ⟨(wrap64 (x10_1 + 1)), (by first | rfl | (simp; done) | (simp [*]; done)), H', ⟨by have := HK1.out; omega⟩, ⟨by repeat (first | (with_reducible first | exact HB.out | apply below_alloc | apply pw_below_drewN | apply below_drew1 | refine below_set ?_ GE139.out) | exact HB.out)⟩⟩
      ·rw [if_neg c5] at H
       exact absurd H (by simp)
     ·rw [if_neg c4] at H
      exact absurd H (by simp)
    ·rw [if_neg c3] at H
     have c3b0 : decide (x10_1 < (l0.length : Int)) = false := decide_eq_false c3
     clear c3
     obtain rfl := Option.some.inj H
     go_wp2
     go_ret
     exact ⟨by first | rfl | (simp [errW_none, errW_some] <;> rfl) | (simp [*, errW_none, errW_some] <;> rfl), by repeat (first | (with_reducible first | exact HB.out | apply below_alloc | apply pw_below_drewN | apply below_drew1) | exact HB.out)⟩

/-! ### epicyclelaw04_rows: function 35 -/
mutual
def epicyclelaw04_rows.l0 : Nat → List (S54) → List (S46) → Int → Int → Option ((List (S54)))
 | 0, _, _, _, _ => none
 | k + 1, x3, x9, x10, x11 => if x11 < x10 then (if 0 ≤ x11 then (if x11 < (x9.length : Int) then (epicyclelaw04_rows.l1 k x3 ([] : List (S59)) x9 x10 x11 ((rd_T46 x9 x11).f2) (((rd_T46 x9 x11).f2).length : Int) 0 ((rd_T46 x9 x11).f0) ((rd_T46 x9 x11).f1) ((rd_T46 x9 x11).f2)) else (none)) else (none)) else (some x3)
def epicyclelaw04_rows.l1 : Nat → List (S54) → List (S59) → List (S46) → Int → Int → List (S60) → Int → Int → Int → Int → List (S60) → Option ((List (S54)))
 | 0, _, _, _, _, _, _, _, _, _, _, _ => none
 | k + 1, x3, x6, x9, x10, x11, x16, x17, x18, x142000, x142001, x142002 => if x18 < x17 then (if 0 ≤ x18 then (if x18 < (x16.length : Int) then (if x6.length < 8796093022208 then (epicyclelaw04_rows.l1 k x3 (x6 ++ [(⟨(rd_T60 x16 x18).f0, (rd_T60 x16 x18).f1⟩ : S59)]) x9 x10 x11 x16 x17 (wrap64 (x18 + 1)) x142000 x142001 x142002) else (none)) else (none)) else (none)) else (if x3.length < 3518437208883 then (epicyclelaw04_rows.l0 k (x3 ++ [(⟨x142000, x142001, x6⟩ : S54)]) x9 x10 (wrap64 (x11 + 1))) else (none))
end
def epicyclelaw04_rows.f (k : Nat) (l0 : List (S46)) : Option ((List (S54))) := epicyclelaw04_rows.l0 k ([] : List (S54)) l0 (l0.length : Int) 0
theorem epicyclelaw04_rows.mono_l : ∀ k, (∀ y0 y1 y2 y3, LeO (epicyclelaw04_rows.l0 k y0 y1 y2 y3) (epicyclelaw04_rows.l0 (k + 1) y0 y1 y2 y3)) ∧ (∀ y0 y1 y2 y3 y4 y5 y6 y7 y8 y9 y10, LeO (epicyclelaw04_rows.l1 k y0 y1 y2 y3 y4 y5 y6 y7 y8 y9 y10) (epicyclelaw04_rows.l1 (k + 1) y0 y1 y2 y3 y4 y5 y6 y7 y8 y9 y10))
 | 0 => ⟨fun _ _ _ _ r h => by simp [epicyclelaw04_rows.l0] at h, fun _ _ _ _ _ _ _ _ _ _ _ r h => by simp [epicyclelaw04_rows.l1] at h⟩
 | k + 1 => by
  obtain ⟨ih0, ih1⟩ := epicyclelaw04_rows.mono_l k
  refine ⟨?_, ?_⟩
  ·intro y0 y1 y2 y3
   unfold epicyclelaw04_rows.l0
   repeat' first
   | (with_reducible exact ih0 _ _ _ _)
   | (with_reducible exact ih1 _ _ _ _ _ _ _ _ _ _ _)
   | (with_reducible exact LeO.refl _)
   | (with_reducible exact LeO.none _)
   | (with_reducible refine LeO.ite ?_ ?_)
   | (with_reducible refine LeO.bind ?_ (fun _ => ?_))
   | exact ih0 _ _ _ _
   | exact ih1 _ _ _ _ _ _ _ _ _ _ _
   | exact LeO.none _
   | refine LeO.ite ?_ ?_
   | refine LeO.bind ?_ (fun _ => ?_)
  ·intro y0 y1 y2 y3 y4 y5 y6 y7 y8 y9 y10
   unfold epicyclelaw04_rows.l1
   repeat' first
   | (with_reducible exact ih0 _ _ _ _)
   | (with_reducible exact ih1 _ _ _ _ _ _ _ _ _ _ _)
   | (with_reducible exact LeO.refl _)
   | (with_reducible exact LeO.none _)
   | (with_reducible refine LeO.ite ?_ ?_)
   | (with_reducible refine LeO.bind ?_ (fun _ => ?_))
   | exact ih0 _ _ _ _
   | exact ih1 _ _ _ _ _ _ _ _ _ _ _
   | exact LeO.none _
   | refine LeO.ite ?_ ?_
   | refine LeO.bind ?_ (fun _ => ?_)
theorem epicyclelaw04_rows.mono : ∀ a0 k, LeO (epicyclelaw04_rows.f k a0) (epicyclelaw04_rows.f (k + 1) a0) := by
 intro a0 k
 obtain ⟨ih0, ih1⟩ := epicyclelaw04_rows.mono_l k
 unfold epicyclelaw04_rows.f
 repeat' first
   | (with_reducible exact ih0 _ _ _ _)
   | (with_reducible exact ih1 _ _ _ _ _ _ _ _ _ _ _)
   | (with_reducible exact LeO.refl _)
   | (with_reducible exact LeO.none _)
   | (with_reducible refine LeO.ite ?_ ?_)
   | (with_reducible refine LeO.bind ?_ (fun _ => ?_))
   | exact ih0 _ _ _ _
   | exact ih1 _ _ _ _ _ _ _ _ _ _ _
   | exact LeO.none _
   | refine LeO.ite ?_ ?_
   | refine LeO.bind ?_ (fun _ => ?_)
set_option maxHeartbeats 8000000 in
set_option maxRecDepth 100000 in
theorem epicyclelaw04_rows.calls (k : Nat) (A0 : Option Addr) (c0 : Nat) (l0 : List (S46)) (r : List (S54)) (w : World) (hr0 : Kd.C k46 w A0 l0.length l0) (hc0 : l0.length ≤ c0) (h : epicyclelaw04_rows.f k l0 = some r) :
  Calls Try.prog 35 #[.slice A0 l0.length c0] w fun e w' => ∃ v0_ : Value, e = .returned (v0_) ∧ Kd.S k54 54 w' w.heap.size (fun _ => True) v0_ r ∧ Below w.heap.size w w' := by
 have hu46 := Try.underlying46
 have hu60 := Try.underlying60
 have hu54 := Try.underlying54
 have HR0 := Aside0.mk hr0
 have HC0 := Aside0.mk hc0
 clear hr0 hc0
 have HB := Aside0.mk (Below.refl w.heap.size w)
 have H : (epicyclelaw04_rows.l0 k ([] : List (S54)) l0 (l0.length : Int) 0) = some r := h
 clear h
 have H' := Aside0.mk H
 clear H
 go_enter Try.func35, Try.ntmps35
 go_wp2
 go_loopg [3, 11] k (fun kq v3 v11 w' => ∃ (x3_1 : List (S54)) (x11_1 : Int), v11 = .int .i64 x11_1 ∧ Aside0 (epicyclelaw04_rows.l0 kq x3_1 l0 (l0.length : Int) x11_1 = some r) ∧ Aside0 (kq ≤ k) ∧ Aside0 (Kd.S k54 54 w' w.heap.size (fun _ => True) v3 x3_1) ∧ Aside0 (Below w.heap.size w w'))
 case atStart => exact ⟨(([] : List (S54))), (0), (by first | rfl | (simp; done) | (simp [*]; done)), H', ⟨Nat.le_refl _⟩, ⟨by first | exact Kd.S_nil _ _ _ _ _ | exact Kd.N_nil _ _ _ _ _ | exact Kd.V_nil _ _ _ _ _ | exact Kd.Q_nil _ _ _ _ _ | exact Kd.R_nil _ _ _ _ _⟩, ⟨by repeat (first | (with_reducible first | exact HB.out | apply below_alloc | apply pw_below_drewN | apply below_drew1) | exact HB.out)⟩⟩
 case round =>
  clear H'
  obtain ⟨x3_1, x11_1, rfl, HA, HK1, HO_3, HB⟩ := hrel
  cases gk with
  | zero => exact absurd HA.out (by simp [epicyclelaw04_rows.l0])
  | succ k1 =>
   have H := HA.out
   clear HA
   simp only [epicyclelaw04_rows.l0] at H
   by_cases c2 : x11_1 < (l0.length : Int)
   ·rw [if_pos c2] at H
    have c2b0 : decide (x11_1 < (l0.length : Int)) = true := decide_eq_true c2
    clear c2
    by_cases c3 : 0 ≤ x11_1
    ·rw [if_pos c3] at H
     have c3b0 : decide (0 ≤ x11_1) = true := decide_eq_true c3
     clear c3
     by_cases c4 : x11_1 < (l0.length : Int)
     ·rw [if_pos c4] at H
      have c4b0 : decide (x11_1 < (l0.length : Int)) = true := decide_eq_true c4
      clear c4
      have H' := Aside0.mk H
      clear H
      have p140 : 0 ≤ (x11_1 : Int) := of_decide_eq_true (by first | (with_reducible assumption) | assumption)
      have q140 : x11_1 < (l0.length : Int) := of_decide_eq_true (by first | (with_reducible assumption) | assumption)
      obtain ⟨ad140, A140_2, c140_2, e140, hx140_0, hx140_1, hx140_2, hl140_2, hi140_2⟩ := at_T46 HR0.out x11_1 p140 q140
      cases e140
      replace hx140_0 := (HB.out.cell (World.block_lt_of_cell? w _ hx140_0)).trans hx140_0
      replace hx140_1 := (HB.out.cell (World.block_lt_of_cell? w _ hx140_1)).trans hx140_1
      replace hx140_2 := (HB.out.cell (World.block_lt_of_cell? w _ hx140_2)).trans hx140_2
      have HR140_2 := Aside0.mk hi140_2
      have HC140_2 := Aside0.mk hl140_2
      clear hi140_2 hl140_2
      replace p140 := eq_true p140
      replace q140 := eq_true q140
      go_wp2_with (first | ((with_reducible refine gate_dst (N := 5) rfl ?_); refine box_event ?hg (N := 5) ?hd (cs := #[.int .u64 0, .int .u64 0, .slice none 0 0]) (t := 46) ?hr ?_; (case hd => rfl); (case hg => rfl); (case hr => first | (go_simp; done) | (go_simp; rfl)); intro gb141 hg w5 hbox hb; have n0_ := Aside0.mk (Kd.S_below (by (with_reducible repeat (first | apply Kd.S_alloc | apply Kd.S_drewN | apply Kd.S_drew)); exact HO_3.out) hb); have n1_ := Aside0.mk (below_step (by repeat (first | (with_reducible first | exact HB.out | apply below_alloc | apply pw_below_drewN | apply below_drew1) | exact HB.out)) hb); have n2_ := Aside0.mk (hbox); have n3_ := Aside0.mk ((by rw [hg]; exact (below_size (by repeat (first | (with_reducible first | exact HB.out | apply below_alloc | apply pw_below_drewN | apply below_drew1) | exact HB.out))) : w.heap.size ≤ gb141)); have n4_ := Aside0.mk ((by rw [hg]; exact (below_size (by repeat (first | (with_reducible first | exact HB.out | apply below_alloc | apply pw_below_drewN | apply below_drew1) | exact HB.out))) : w.heap.size ≤ gb141)); clear HO_3; clear HB; have HO_3 := n0_; have HB := n1_; have BK141 := n2_; have GW141 := n3_; have GE141 := n4_; clear n0_ n1_ n2_ n3_ n4_; clear hb hbox hg; have hcz6_0 : w5.cell? ⟨gb141, 0, none⟩ = some (.int .u64 0) := (blk_cell BK141.out 0).trans rfl; have hcz6_1 : w5.cell? ⟨gb141, 1, none⟩ = some (.int .u64 0) := (blk_cell BK141.out 1).trans rfl; have hcz6_2 : w5.cell? ⟨gb141, 2, none⟩ = some (.slice none 0 0) := (blk_cell BK141.out 2).trans rfl; have hfz6_0 := blk_frozen BK141.out 0; have hfz6_1 := blk_frozen BK141.out 1; have hfz6_2 := blk_frozen BK141.out 2))
      go_loopg [6, 18] k1 (fun kq v6 v18 w' => ∃ (x6_2 : List (S59)) (x18_2 : Int), v18 = .int .i64 x18_2 ∧ Aside0 (epicyclelaw04_rows.l1 kq x3_1 x6_2 l0 (l0.length : Int) x11_1 ((rd_T46 l0 x11_1).f2) (((rd_T46 l0 x11_1).f2).length : Int) x18_2 ((rd_T46 l0 x11_1).f0) ((rd_T46 l0 x11_1).f1) ((rd_T46 l0 x11_1).f2) = some r) ∧ Aside0 (kq ≤ k1) ∧ Aside0 (Kd.S k54 54 w' w.heap.size (fun k_ => some k_ ≠ (v6 : Value).ownBlock) u3 x3_1) ∧ Aside0 (Kd.R k59 59 w' w.heap.size (fun _ => True) v6 x6_2) ∧ Aside0 (w'.heap[gb141]? = some (.cells #[.int .u64 ((rd_T46 l0 x11_1).f0), .int .u64 ((rd_T46 l0 x11_1).f1), (.slice A140_2 ((rd_T46 l0 x11_1).f2).length c140_2)] 46 (0, 0))) ∧ Aside0 (Below w.heap.size w w'))
      case atStart => exact ⟨(([] : List (S59))), (0), (by first | rfl | (simp; done) | (simp [*]; done)), H', ⟨Nat.le_refl _⟩, ⟨by (with_reducible repeat (first | apply Kd.S_alloc | apply Kd.S_drewN | apply Kd.S_drew)); exact Kd.S_mono (Kd.S_far (p := ⟨gb141, 2, none⟩) (Kd.S_far (p := ⟨gb141, 1, none⟩) (Kd.S_far (p := ⟨gb141, 0, none⟩) (Kd.S_types HO_3.out BK141.out (by decide)) (fun _ hk => hk.2) (.int .u64 ((rd_T46 l0 x11_1).f0))) (fun _ hk => hk.2) (.int .u64 ((rd_T46 l0 x11_1).f1))) (fun _ hk => hk.2) (.slice A140_2 ((rd_T46 l0 x11_1).f2).length c140_2)) (fun _ hk => (by simp [Value.ownBlock]))⟩, ⟨by first | exact Kd.R_nil _ _ _ _ _ | exact Kd.N_nil _ _ _ _ _ | exact Kd.V_nil _ _ _ _ _ | exact Kd.Q_nil _ _ _ _ _ | exact Kd.S_nil _ _ _ _ _⟩, ⟨by (with_reducible repeat (first | refine blk_drewN ?_ _ | refine blk_drew ?_ | refine blk_alloc ?_ _)); refine blk_put (cs := #[.int .u64 ((rd_T46 l0 x11_1).f0), .int .u64 ((rd_T46 l0 x11_1).f1), .slice none 0 0]) ?_ 2 _ rfl; (with_reducible repeat (first | refine blk_drewN ?_ _ | refine blk_drew ?_ | refine blk_alloc ?_ _)); refine blk_put (cs := #[.int .u64 ((rd_T46 l0 x11_1).f0), .int .u64 0, .slice none 0 0]) ?_ 1 _ rfl; (with_reducible repeat (first | refine blk_drewN ?_ _ | refine blk_drew ?_ | refine blk_alloc ?_ _)); refine blk_put (cs := #[.int .u64 0, .int .u64 0, .slice none 0 0]) ?_ 0 _ rfl; (with_reducible repeat (first | refine blk_drewN ?_ _ | refine blk_drew ?_ | refine blk_alloc ?_ _)); exact BK141.out⟩, ⟨by repeat (first | (with_reducible first | exact HB.out | apply below_alloc | apply pw_below_drewN | apply below_drew1 | refine below_set ?_ GE141.out) | exact HB.out)⟩⟩
      case round =>
       clear H'
       try clear c1
       try clear p1
       try clear q1
       try clear hx1
       try clear c2
       try clear c2b0
       try clear p2
       try clear c3
       try clear c3b0
       try clear c4
       try clear c4b0
       try clear hcz6_0
       try clear hcz6_1
       try clear hcz6_2
       try clear hfz6_0
       try clear hfz6_1
       try clear hfz6_2
       try clear hx140_0
       try clear hx140_1
       try clear hx140_2
       try clear p140
       try clear q140
       obtain ⟨x6_2, x18_2, rfl, HA, HK2, HO_3, HO_6, BK141, HB⟩ := hrel
       cases gk with
       | zero => exact absurd HA.out (by simp [epicyclelaw04_rows.l1])
       | succ k2 =>
        have H := HA.out
        clear HA
        simp only [epicyclelaw04_rows.l1] at H
        by_cases c7 : x18_2 < (((rd_T46 l0 x11_1).f2).length : Int)
        ·rw [if_pos c7] at H
         have c7b0 : decide (x18_2 < (((rd_T46 l0 x11_1).f2).length : Int)) = true := decide_eq_true c7
         clear c7
         by_cases c8 : 0 ≤ x18_2
         ·rw [if_pos c8] at H
          have c8b0 : decide (0 ≤ x18_2) = true := decide_eq_true c8
          clear c8
          by_cases c9 : x18_2 < (((rd_T46 l0 x11_1).f2).length : Int)
          ·rw [if_pos c9] at H
           have c9b0 : decide (x18_2 < (((rd_T46 l0 x11_1).f2).length : Int)) = true := decide_eq_true c9
           clear c9
           by_cases c10 : x6_2.length < 8796093022208
           ·rw [if_pos c10] at H
            have LMc10 := Aside0.mk c10
            clear c10
            obtain ⟨y144, hy144⟩ : ∃ y_ : List (S59), y_ = (x6_2 ++ [(⟨(rd_T60 ((rd_T46 l0 x11_1).f2) x18_2).f0, (rd_T60 ((rd_T46 l0 x11_1).f2) x18_2).f1⟩ : S59)]) := ⟨_, rfl⟩
            replace H : (epicyclelaw04_rows.l1 k2 x3_1 y144 l0 (l0.length : Int) x11_1 ((rd_T46 l0 x11_1).f2) (((rd_T46 l0 x11_1).f2).length : Int) (wrap64 (x18_2 + 1)) ((rd_T46 l0 x11_1).f0) ((rd_T46 l0 x11_1).f1) ((rd_T46 l0 x11_1).f2)) = some r := by first | (rw [hy144]; with_reducible exact H) | (have H2_ := (Option.bind_some _ _).symm.trans H; rw [hy144]; with_reducible exact H2_) | (have H2_ := (Option.bind_some _ _).symm.trans H; with_reducible exact H2_) | with_reducible exact H | (rw [hy144]; exact H) | exact H
            have Ny144 := Aside0.mk hy144
            clear hy144
            have H' := Aside0.mk H
            clear H
            have p142 : 0 ≤ (x18_2 : Int) := of_decide_eq_true (by first | (with_reducible assumption) | assumption)
            have q142 : x18_2 < (((rd_T46 l0 x11_1).f2).length : Int) := of_decide_eq_true (by first | (with_reducible assumption) | assumption)
            obtain ⟨ad142, e142, hx142_0, hx142_1⟩ := at_T60 HR140_2.out x18_2 p142 q142
            cases e142
            replace hx142_0 := (HB.out.cell (World.block_lt_of_cell? w _ hx142_0)).trans hx142_0
            replace hx142_1 := (HB.out.cell (World.block_lt_of_cell? w _ hx142_1)).trans hx142_1
            replace p142 := eq_true p142
            replace q142 := eq_true q142
            go_wp2_with (first | ((with_reducible refine gate_dst (N := 8) rfl ?_); refine box_event ?hg (N := 8) ?hd (cs := #[.int .u64 0, .int .i64 0]) (t := 60) ?hr ?_; (case hd => rfl); (case hg => rfl); (case hr => first | (go_simp; done) | (go_simp; rfl)); intro gb143 hg w11 hbox hb; have n0_ := Aside0.mk (Kd.S_below (by (with_reducible repeat (first | apply Kd.S_alloc | apply Kd.S_drewN | apply Kd.S_drew)); exact HO_3.out) hb); have n1_ := Aside0.mk (Kd.R_below (by (with_reducible repeat (first | apply Kd.R_alloc | apply Kd.R_drewN | apply Kd.R_drew)); exact HO_6.out) hb); have n2_ := Aside0.mk (blk_below (g := gb141) (o := .cells #[.int .u64 ((rd_T46 l0 x11_1).f0), .int .u64 ((rd_T46 l0 x11_1).f1), .slice (some ad142) ((rd_T46 l0 x11_1).f2).length c140_2] 46 (0, 0)) (by (with_reducible repeat (first | refine blk_drewN ?_ _ | refine blk_drew ?_ | refine blk_alloc ?_ _)); exact BK141.out) hb); have n3_ := Aside0.mk (below_step (by repeat (first | (with_reducible first | exact HB.out | apply below_alloc | apply pw_below_drewN | apply below_drew1 | refine below_set ?_ GE141.out) | exact HB.out)) hb); have n4_ := Aside0.mk (hbox); have n5_ := Aside0.mk ((by rw [hg]; exact (below_size (by repeat (first | (with_reducible first | exact HB.out | apply below_alloc | apply pw_below_drewN | apply below_drew1 | refine below_set ?_ GE141.out) | exact HB.out))) : w.heap.size ≤ gb143)); have n6_ := Aside0.mk ((by rw [hg]; exact (below_size (by repeat (first | (with_reducible first | exact HB.out | apply below_alloc | apply pw_below_drewN | apply below_drew1 | refine below_set ?_ GE141.out) | exact HB.out))) : w.heap.size ≤ gb143)); have n7_ := Aside0.mk ((by rw [hg]; exact Nat.ne_of_lt (blk_lt (g := gb141) (o := .cells #[.int .u64 ((rd_T46 l0 x11_1).f0), .int .u64 ((rd_T46 l0 x11_1).f1), .slice (some ad142) ((rd_T46 l0 x11_1).f2).length c140_2] 46 (0, 0)) (by (with_reducible repeat (first | refine blk_drewN ?_ _ | refine blk_drew ?_ | refine blk_alloc ?_ _)); exact BK141.out)) : gb141 ≠ gb143)); have n8_ := Aside0.mk ((by rw [hg]; exact Nat.ne_of_gt (blk_lt (g := gb141) (o := .cells #[.int .u64 ((rd_T46 l0 x11_1).f0), .int .u64 ((rd_T46 l0 x11_1).f1), .slice (some ad142) ((rd_T46 l0 x11_1).f2).length c140_2] 46 (0, 0)) (by (with_reducible repeat (first | refine blk_drewN ?_ _ | refine blk_drew ?_ | refine blk_alloc ?_ _)); exact BK141.out)) : gb143 ≠ gb141)); clear HO_3; clear HO_6; clear BK141; clear HB; have HO_3 := n0_; have HO_6 := n1_; have BK141 := n2_; have HB := n3_; have BK143 := n4_; have GW143 := n5_; have GE143 := n6_; have NB141_143 := n7_; have NB143_141 := n8_; clear n0_ n1_ n2_ n3_ n4_ n5_ n6_ n7_ n8_; clear hb hbox hg; have hnb12 := NB143_141.out; have hnc12 := NB141_143.out; have hcz13_0 : w11.cell? ⟨gb143, 0, none⟩ = some (.int .u64 0) := (blk_cell BK143.out 0).trans rfl; have hcz13_1 : w11.cell? ⟨gb143, 1, none⟩ = some (.int .i64 0) := (blk_cell BK143.out 1).trans rfl; have hfz13_0 := blk_frozen BK143.out 0; have hfz13_1 := blk_frozen BK143.out 1) | ((with_reducible refine gate_builtin (b := .append) (xs := #[.tmp 22, .tmp 24]) rfl ?_); at_builtin; refine Kd.R_append k59 (w0 := w) w.heap.size rfl (.tmp 22) (.tmp 24) 52 59 (.agg #[(.int .u64 0), (.int .i64 0)]) 16 rfl Try.underlying52 info59 rfl (by decide) (by omega) u6 x6_2 (⟨(rd_T60 ((rd_T46 l0 x11_1).f2) x18_2).f0, (rd_T60 ((rd_T46 l0 x11_1).f2) x18_2).f1⟩ : S59) [.int .u64 ((rd_T60 ((rd_T46 l0 x11_1).f2) x18_2).f0), .int .i64 ((rd_T60 ((rd_T46 l0 x11_1).f2) x18_2).f1)] (fun _ => True) (fun _ => False) rfl (by first | (go_simp; done) | (go_simp; rfl)) ?aP (fun _ hk => hk.elim) ?aF ?aO ?aB ?aS ?aL ?_; (case aP => exact k59_mkM _ _ _ (⟨(rd_T60 ((rd_T46 l0 x11_1).f2) x18_2).f0, (rd_T60 ((rd_T46 l0 x11_1).f2) x18_2).f1⟩ : S59)); (case aB => exact (by repeat (first | (with_reducible first | exact HB.out | apply below_alloc | apply pw_below_drewN | apply below_drew1 | refine below_set ?_ GE141.out | refine below_set ?_ GE143.out) | exact HB.out))); (case aF => exact (fun _ _ => trivial)); (case aO => exact (by (with_reducible repeat (first | apply Kd.R_alloc | apply Kd.R_drewN | apply Kd.R_drew)); exact Kd.R_mono (Kd.R_far (p := ⟨gb143, 1, none⟩) (Kd.R_far (p := ⟨gb143, 0, none⟩) (Kd.R_types HO_6.out BK143.out (by decide)) (fun _ hk => hk.2) (.int .u64 ((rd_T60 ((rd_T46 l0 x11_1).f2) x18_2).f0))) (fun _ hk => hk.2) (.int .i64 ((rd_T60 ((rd_T46 l0 x11_1).f2) x18_2).f1))) (fun _ hk => trivial))); (case aS => exact (below_size (by repeat (first | (with_reducible first | exact HB.out | apply below_alloc | apply pw_below_drewN | apply below_drew1 | refine below_set ?_ GE141.out | refine below_set ?_ GE143.out) | exact HB.out)))); (case aL => have := LMc10.out; omega); intro v145 w14 ho hb hg hat; rw [← Ny144.out] at ho; have n0_ := Aside0.mk (Kd.S_after (ok := (fun _ => True)) (by (with_reducible repeat (first | apply Kd.S_alloc | apply Kd.S_drewN | apply Kd.S_drew)); exact Kd.S_mono (Kd.S_far (p := ⟨gb143, 1, none⟩) (Kd.S_far (p := ⟨gb143, 0, none⟩) (Kd.S_types HO_3.out BK143.out (by decide)) (fun _ hk => hk.2) (.int .u64 ((rd_T60 ((rd_T46 l0 x11_1).f2) x18_2).f0))) (fun _ hk => hk.2) (.int .i64 ((rd_T60 ((rd_T46 l0 x11_1).f2) x18_2).f1))) (fun _ hk => ⟨trivial, hk.1⟩)) hg hat); have n1_ := Aside0.mk (blk_grown (g := gb141) (o := .cells #[.int .u64 ((rd_T46 l0 x11_1).f0), .int .u64 ((rd_T46 l0 x11_1).f1), .slice (some ad142) ((rd_T46 l0 x11_1).f2).length c140_2] 46 (0, 0)) (by (with_reducible repeat (first | refine blk_drewN ?_ _ | refine blk_drew ?_ | refine blk_alloc ?_ _)); refine blk_far ?_ NB141_143.out _; (with_reducible repeat (first | refine blk_drewN ?_ _ | refine blk_drew ?_ | refine blk_alloc ?_ _)); refine blk_far ?_ NB141_143.out _; (with_reducible repeat (first | refine blk_drewN ?_ _ | refine blk_drew ?_ | refine blk_alloc ?_ _)); exact BK141.out) hg (Kd.R_ne HO_6.out BK141.out (by decide))); have n2_ := Aside0.mk (blk_grown (g := gb143) (o := .cells #[.int .u64 ((rd_T60 ((rd_T46 l0 x11_1).f2) x18_2).f0), .int .i64 ((rd_T60 ((rd_T46 l0 x11_1).f2) x18_2).f1)] 60 (0, 0)) (by (with_reducible repeat (first | refine blk_drewN ?_ _ | refine blk_drew ?_ | refine blk_alloc ?_ _)); refine blk_put (cs := #[.int .u64 ((rd_T60 ((rd_T46 l0 x11_1).f2) x18_2).f0), .int .i64 0]) ?_ 1 _ rfl; (with_reducible repeat (first | refine blk_drewN ?_ _ | refine blk_drew ?_ | refine blk_alloc ?_ _)); refine blk_put (cs := #[.int .u64 0, .int .i64 0]) ?_ 0 _ rfl; (with_reducible repeat (first | refine blk_drewN ?_ _ | refine blk_drew ?_ | refine blk_alloc ?_ _)); exact BK143.out) hg (Kd.R_ne HO_6.out BK143.out (by decide))); have n3_ := Aside0.mk (hb); have n4_ := Aside0.mk (ho); clear HO_3; clear BK141; clear BK143; clear HB; clear HO_6; have HO_3 := n0_; have BK141 := n1_; have BK143 := n2_; have HB := n3_; have HO146 := n4_; clear n0_ n1_ n2_ n3_ n4_; clear ho hb hg hat))
            go_roundg k2
            case measure => have := HK1.out; have := HK2.out; omega
            case rel => exact ⟨(y144), (wrap64 (x18_2 + 1)), (by first | rfl | (simp; done) | (simp [*]; done)), H', ⟨by have := HK1.out; have := HK2.out; omega⟩, ⟨by (with_reducible repeat (first | apply Kd.S_alloc | apply Kd.S_drewN | apply Kd.S_drew)); exact Kd.S_mono HO_3.out (fun _ hk => hk.2)⟩, ⟨by (with_reducible repeat (first | apply Kd.R_alloc | apply Kd.R_drewN | apply Kd.R_drew)); exact HO146.out⟩, ⟨by (with_reducible repeat (first | refine blk_drewN ?_ _ | refine blk_drew ?_ | refine blk_alloc ?_ _)); exact BK141.out⟩, ⟨by repeat (first | (with_reducible first | exact HB.out | apply below_alloc | apply pw_below_drewN | apply below_drew1 | refine below_set ?_ GE141.out | refine below_set ?_ GE143.out) | exact HB.out)⟩⟩
           ·rw [if_neg c10] at H
            exact absurd H (by simp)
          ·rw [if_neg c9] at H
           exact absurd H (by simp)
         ·rw [if_neg c8] at H
          exact absurd H (by simp)
        ·rw [if_neg c7] at H
         have c7b0 : decide (x18_2 < (((rd_T46 l0 x11_1).f2).length : Int)) = false := decide_eq_false c7
         clear c7
         by_cases c15 : x3_1.length < 3518437208883
         ·rw [if_pos c15] at H
          have LMc15 := Aside0.mk c15
          clear c15
          obtain ⟨y147, hy147⟩ : ∃ y_ : List (S54), y_ = (x3_1 ++ [(⟨((rd_T46 l0 x11_1).f0), ((rd_T46 l0 x11_1).f1), x6_2⟩ : S54)]) := ⟨_, rfl⟩
          replace H : (epicyclelaw04_rows.l0 k2 y147 l0 (l0.length : Int) (wrap64 (x11_1 + 1))) = some r := by first | (rw [hy147]; with_reducible exact H) | (have H2_ := (Option.bind_some _ _).symm.trans H; rw [hy147]; with_reducible exact H2_) | (have H2_ := (Option.bind_some _ _).symm.trans H; with_reducible exact H2_) | with_reducible exact H | (rw [hy147]; exact H) | exact H
          have Ny147 := Aside0.mk hy147
          clear hy147
          have H' := Aside0.mk H
          clear H
          have hcz16_0 : wr.cell? ⟨gb141, 0, none⟩ = some (.int .u64 ((rd_T46 l0 x11_1).f0)) := (blk_cell BK141.out 0).trans rfl
          have hcz16_1 : wr.cell? ⟨gb141, 1, none⟩ = some (.int .u64 ((rd_T46 l0 x11_1).f1)) := (blk_cell BK141.out 1).trans rfl
          have hcz16_2 : wr.cell? ⟨gb141, 2, none⟩ = some (.slice A140_2 ((rd_T46 l0 x11_1).f2).length c140_2) := (blk_cell BK141.out 2).trans rfl
          have hfz16_0 := blk_frozen BK141.out 0
          have hfz16_1 := blk_frozen BK141.out 1
          have hfz16_2 := blk_frozen BK141.out 2
          obtain ⟨Ao17, co17, eo17⟩ := Kd.R_slice HO_6.out
          subst eo17
          go_wp2_with (first | ((with_reducible refine gate_builtin (b := .append) (xs := #[.tmp 27, .tmp 34]) rfl ?_); at_builtin; refine Kd.S_append k54 (w0 := w) w.heap.size rfl (.tmp 27) (.tmp 34) 40 54 (.agg #[(.int .u64 0), (.int .u64 0), (.slice none 0 0)]) 40 rfl Try.underlying40 info54 rfl (by decide) (by omega) u3 x3_1 (⟨((rd_T46 l0 x11_1).f0), ((rd_T46 l0 x11_1).f1), x6_2⟩ : S54) [.int .u64 ((rd_T46 l0 x11_1).f0), .int .u64 ((rd_T46 l0 x11_1).f1), .slice Ao17 x6_2.length co17] (fun _ => True) (fun k_ => some k_ = (.slice Ao17 x6_2.length co17 : Value).ownBlock) rfl rfl ?aP (fun k_ hk_ => ((Kd.R_mono (ok' := fun k_ => ((fun _ => True)) k_ ∧ some k_ ≠ (u3 : Value).ownBlock) (Kd.R_apart' (HO_6.out) (Kd.S_typed HO_3.out) (by decide)) (fun k_ hk => ⟨trivial, hk.2⟩))).1 k_ hk_.symm) ?aF ?aO ?aB ?aS ?aL ?_; (case aP => exact k54_mkM _ _ _ (⟨((rd_T46 l0 x11_1).f0), ((rd_T46 l0 x11_1).f1), x6_2⟩ : S54) (Kd.R_mono (Kd.R_tight rfl (Kd.R_mono (ok' := fun k_ => ((fun _ => True)) k_ ∧ some k_ ≠ (u3 : Value).ownBlock) (Kd.R_apart' (HO_6.out) (Kd.S_typed HO_3.out) (by decide)) (fun k_ hk => ⟨trivial, hk.2⟩))) (fun _ h_ => h_))); (case aB => exact (by repeat (first | (with_reducible first | exact HB.out | apply below_alloc | apply pw_below_drewN | apply below_drew1 | refine below_set ?_ GE141.out) | exact HB.out))); (case aF => exact (fun _ _ => trivial)); (case aO => exact (by (with_reducible repeat (first | apply Kd.S_alloc | apply Kd.S_drewN | apply Kd.S_drew)); exact Kd.S_mono HO_3.out (fun k_ hk => ⟨trivial, fun e_ => hk e_⟩))); (case aS => exact (below_size (by repeat (first | (with_reducible first | exact HB.out | apply below_alloc | apply pw_below_drewN | apply below_drew1 | refine below_set ?_ GE141.out) | exact HB.out)))); (case aL => have := LMc15.out; omega); intro v148 w18 ho hb hg hat; rw [← Ny147.out] at ho; have n0_ := Aside0.mk (blk_grown (g := gb141) (o := .cells #[.int .u64 ((rd_T46 l0 x11_1).f0), .int .u64 ((rd_T46 l0 x11_1).f1), .slice A140_2 ((rd_T46 l0 x11_1).f2).length c140_2] 46 (0, 0)) (by (with_reducible repeat (first | refine blk_drewN ?_ _ | refine blk_drew ?_ | refine blk_alloc ?_ _)); exact BK141.out) hg (Kd.S_ne HO_3.out BK141.out (by decide))); have n1_ := Aside0.mk (hb); have n2_ := Aside0.mk (ho); clear BK141; clear HB; clear HO_3; clear HO_6; have BK141 := n0_; have HB := n1_; have HO149 := n2_; clear n0_ n1_ n2_; clear ho hb hg hat))
          go_roundg k2
          case measure => have := HK1.out; have := HK2.out; omega
          case rel => exact ⟨(y147), (wrap64 (x11_1 + 1)), (by first | rfl | (simp; done) | (simp [*]; done)), H', ⟨by have := HK1.out; have := HK2.out; omega⟩, ⟨by (with_reducible repeat (first | apply Kd.S_alloc | apply Kd.S_drewN | apply Kd.S_drew)); exact HO149.out⟩, ⟨by repeat (first | (with_reducible first | exact HB.out | apply below_alloc | apply pw_below_drewN | apply below_drew1 | refine below_set ?_ GE141.out) | exact HB.out)⟩⟩
         ·rw [if_neg c15] at H
          exact absurd H (by simp)
     ·rw [if_neg c4] at H
      exact absurd H (by simp)
    ·rw [if_neg c3] at H
     exact absurd H (by simp)
   ·rw [if_neg c2] at H
    have c2b0 : decide (x11_1 < (l0.length : Int)) = false := decide_eq_false c2
    clear c2
    obtain rfl := Option.some.inj H
    go_wp2
    go_ret
    exact ⟨_, by first | rfl | (simp [errW_none, errW_some] <;> rfl) | (simp [*, errW_none, errW_some] <;> rfl), by (with_reducible repeat (first | apply Kd.S_alloc | apply Kd.S_drewN | apply Kd.S_drew)); exact HO_3.out, by repeat (first | (with_reducible first | exact HB.out | apply below_alloc | apply pw_below_drewN | apply below_drew1) | exact HB.out)⟩

/-! ### epicycleref02_Add: function 23 -/
def epicycleref02_Add.f (a0 : Int) (a1 : Int) (a2 : Int) : Option (Int) := if a2 = 0 then (none) else (if (Int.tmod a0 a2) ≥ (IntKind.u64.wrap (a2 - (Int.tmod a1 a2))) then (some (IntKind.u64.wrap ((Int.tmod a0 a2) - (IntKind.u64.wrap (a2 - (Int.tmod a1 a2)))))) else (some (IntKind.u64.wrap ((Int.tmod a0 a2) + (Int.tmod a1 a2)))))
set_option maxHeartbeats 8000000 in
set_option maxRecDepth 100000 in
theorem epicycleref02_Add.calls (a0 : Int) (a1 : Int) (a2 : Int) (r : Int) (w : World) (h : epicycleref02_Add.f a0 a1 a2 = some r) :
  Calls Try.prog 23 #[.int .u64 a0, .int .u64 a1, .int .u64 a2] w fun e w' => e = .returned (.int .u64 r) ∧ Drawn0 w w' := by
 have H : (if a2 = 0 then (none) else (if (Int.tmod a0 a2) ≥ (IntKind.u64.wrap (a2 - (Int.tmod a1 a2))) then (some (IntKind.u64.wrap ((Int.tmod a0 a2) - (IntKind.u64.wrap (a2 - (Int.tmod a1 a2)))))) else (some (IntKind.u64.wrap ((Int.tmod a0 a2) + (Int.tmod a1 a2)))))) = some r := h
 clear h
 by_cases c4 : a2 = 0
 ·rw [if_pos c4] at H
  exact absurd H (by simp)
 ·rw [if_neg c4] at H
  have c4b0 : (a2 == 0) = false := beq_eq_false_iff_ne.mpr c4
  have c4b1 : (a2 != 0) = true := bne_iff_ne.mpr c4
  by_cases c5 : (Int.tmod a0 a2) ≥ (IntKind.u64.wrap (a2 - (Int.tmod a1 a2)))
  ·rw [if_pos c5] at H
   have c5b0 : decide ((IntKind.u64.wrap (a2 - (Int.tmod a1 a2))) ≤ (Int.tmod a0 a2)) = true := decide_eq_true c5
   clear c5
   obtain rfl := Option.some.inj H
   go_enter Try.func23, Try.ntmps23
   go_wp2
   go_ret
   exact ⟨by first | rfl | (simp; done) | (simp [*]; done), by repeat (first | exact Drawn0.refl _ | apply Drawn0.step)⟩
  ·rw [if_neg c5] at H
   have c5b0 : decide ((IntKind.u64.wrap (a2 - (Int.tmod a1 a2))) ≤ (Int.tmod a0 a2)) = false := decide_eq_false c5
   clear c5
   obtain rfl := Option.some.inj H
   go_enter Try.func23, Try.ntmps23
   go_wp2
   go_ret
   exact ⟨by first | rfl | (simp; done) | (simp [*]; done), by repeat (first | exact Drawn0.refl _ | apply Drawn0.step)⟩

/-! ### epicycleref02_Mul: function 21 -/
def epicycleref02_Mul.l0 : Nat → Int → Int → Int → Int → Option (Int)
 | 0, _, _, _, _ => none
 | k + 1, x0, x1, x2, x7 => if x1 > 0 then (if (Int.tmod x1 2) = 1 then ((epicycleref02_Add.f x7 x0 x2).bind fun t150 => ((epicycleref02_Add.f x0 x0 x2).bind fun t151 => (epicycleref02_Mul.l0 k t151 (IntKind.u64.wrap (Int.tdiv x1 2)) x2 t150))) else ((epicycleref02_Add.f x0 x0 x2).bind fun t152 => (epicycleref02_Mul.l0 k t152 (IntKind.u64.wrap (Int.tdiv x1 2)) x2 x7))) else (some x7)
def epicycleref02_Mul.f (k : Nat) (a0 : Int) (a1 : Int) (a2 : Int) : Option (Int) := if a2 = 0 then (none) else (epicycleref02_Mul.l0 k (Int.tmod a0 a2) a1 a2 0)
theorem epicycleref02_Mul.mono_l : ∀ k, (∀ y0 y1 y2 y3, LeO (epicycleref02_Mul.l0 k y0 y1 y2 y3) (epicycleref02_Mul.l0 (k + 1) y0 y1 y2 y3))
 | 0 => fun _ _ _ _ r h => by simp [epicycleref02_Mul.l0] at h
 | k + 1 => by
  have ih0 := epicycleref02_Mul.mono_l k
  ·intro y0 y1 y2 y3
   unfold epicycleref02_Mul.l0
   repeat' first
   | (with_reducible exact ih0 _ _ _ _)
   | (with_reducible exact LeO.refl _)
   | (with_reducible exact LeO.none _)
   | (with_reducible refine LeO.ite ?_ ?_)
   | (with_reducible refine LeO.bind ?_ (fun _ => ?_))
   | exact ih0 _ _ _ _
   | exact LeO.none _
   | refine LeO.ite ?_ ?_
   | refine LeO.bind ?_ (fun _ => ?_)
theorem epicycleref02_Mul.mono : ∀ a0 a1 a2 k, LeO (epicycleref02_Mul.f k a0 a1 a2) (epicycleref02_Mul.f (k + 1) a0 a1 a2) := by
 intro a0 a1 a2 k
 have ih0 := epicycleref02_Mul.mono_l k
 unfold epicycleref02_Mul.f
 repeat' first
   | (with_reducible exact ih0 _ _ _ _)
   | (with_reducible exact LeO.refl _)
   | (with_reducible exact LeO.none _)
   | (with_reducible refine LeO.ite ?_ ?_)
   | (with_reducible refine LeO.bind ?_ (fun _ => ?_))
   | exact ih0 _ _ _ _
   | exact LeO.none _
   | refine LeO.ite ?_ ?_
   | refine LeO.bind ?_ (fun _ => ?_)
set_option maxHeartbeats 8000000 in
set_option maxRecDepth 100000 in
theorem epicycleref02_Mul.calls (k : Nat) (a0 : Int) (a1 : Int) (a2 : Int) (r : Int) (w : World) (h : epicycleref02_Mul.f k a0 a1 a2 = some r) :
  Calls Try.prog 21 #[.int .u64 a0, .int .u64 a1, .int .u64 a2] w fun e w' => e = .returned (.int .u64 r) ∧ Drawn0 w w' := by
 have H : (if a2 = 0 then (none) else (epicycleref02_Mul.l0 k (Int.tmod a0 a2) a1 a2 0)) = some r := h
 clear h
 by_cases c4 : a2 = 0
 ·rw [if_pos c4] at H
  exact absurd H (by simp)
 ·rw [if_neg c4] at H
  have c4b0 : (a2 == 0) = false := beq_eq_false_iff_ne.mpr c4
  have c4b1 : (a2 != 0) = true := bne_iff_ne.mpr c4
  have H' := Aside0.mk H
  clear H
  go_enter Try.func21, Try.ntmps21
  go_wp2
  go_loopg [0, 1, 7] k (fun kq v0 v1 v7 w' => ∃ (x0_1 : Int) (x1_1 : Int) (x7_1 : Int), v0 = .int .u64 x0_1 ∧ v1 = .int .u64 x1_1 ∧ v7 = .int .u64 x7_1 ∧ Aside0 (epicycleref02_Mul.l0 kq x0_1 x1_1 a2 x7_1 = some r) ∧ Aside0 (kq ≤ k) ∧ Drawn0 w w')
  case atStart => exact ⟨(Int.tmod a0 a2), (a1), (0), (by first | rfl | (simp; done) | (simp [*]; done)), (by first | rfl | (simp; done) | (simp [*]; done)), (by first | rfl | (simp; done) | (simp [*]; done)), H', ⟨Nat.le_refl _⟩, by repeat (first | exact Drawn0.refl _ | apply Drawn0.step)⟩
  case round =>
   clear H'
   try clear c2
   try clear p2
   try clear c4
   try clear c4b0
   try clear c4b1
   obtain ⟨x0_1, x1_1, x7_1, rfl, rfl, rfl, HA, HK1, ⟨m1, rfl⟩⟩ := hrel
   cases gk with
   | zero => exact absurd HA.out (by simp [epicycleref02_Mul.l0])
   | succ k1 =>
    have H := HA.out
    clear HA
    simp only [epicycleref02_Mul.l0] at H
    by_cases c5 : x1_1 > 0
    ·rw [if_pos c5] at H
     have c5b0 : decide (0 < x1_1) = true := decide_eq_true c5
     clear c5
     by_cases c6 : (Int.tmod x1_1 2) = 1
     ·rw [if_pos c6] at H
      have c6b0 : ((Int.tmod x1_1 2) == 1) = true := beq_iff_eq.mpr c6
      have c6b1 : ((Int.tmod x1_1 2) != 1) = false := bne_eq_false_iff_eq.mpr c6
      clear c6
      replace H := Option.bind_eq_some_iff.mp H
      obtain ⟨t150, A70, H⟩ := H
      replace H : ((epicycleref02_Add.f x0_1 x0_1 a2).bind fun t151 => (epicycleref02_Mul.l0 k1 t151 (IntKind.u64.wrap (Int.tdiv x1_1 2)) a2 t150)) = some r := H
      have A7 := Aside0.mk A70
      clear A70
      replace H := Option.bind_eq_some_iff.mp H
      obtain ⟨t151, A80, H⟩ := H
      replace H : (epicycleref02_Mul.l0 k1 t151 (IntKind.u64.wrap (Int.tdiv x1_1 2)) a2 t150) = some r := H
      have A8 := Aside0.mk A80
      clear A80
      have H' := Aside0.mk H
      clear H
      go_wp2_with (first | ((with_reducible refine gate_callee (f := 23) rfl ?_); refine goesL_ (some 19) rfl rfl Try.func23 (by kernel_rfl) rfl #[.int .u64 x7_1, .int .u64 x0_1, .int .u64 a2] rfl (by (try simp only [List.map_toArray, List.map_cons, List.map_nil]); first | done | rfl | (simp only [List.length_drop, List.length_take]; rfl)) ?_; (with_reducible refine (epicycleref02_Add.calls x7_1 x0_1 a2 t150 _ A7.out).mono ?_); rintro e w' ⟨rfl, ⟨nd, rfl⟩⟩; refine ⟨_, rfl, ?_⟩) | ((with_reducible refine gate_callee (f := 23) rfl ?_); refine goesL_ (some 23) rfl rfl Try.func23 (by kernel_rfl) rfl #[.int .u64 x0_1, .int .u64 x0_1, .int .u64 a2] rfl (by (try simp only [List.map_toArray, List.map_cons, List.map_nil]); first | done | rfl | (simp only [List.length_drop, List.length_take]; rfl)) ?_; (with_reducible refine (epicycleref02_Add.calls x0_1 x0_1 a2 t151 _ A8.out).mono ?_); rintro e w' ⟨rfl, ⟨nd, rfl⟩⟩; refine ⟨_, rfl, ?_⟩))
      go_roundg k1
      case measure => have := HK1.out; omega
      case rel => exact ⟨(t151), (IntKind.u64.wrap (Int.tdiv x1_1 2)), (t150), (by first | rfl | (simp; done) | (simp [*]; done)), (by first | rfl | (simp; done) | (simp [*]; done)), (by first | rfl | (simp; done) | (simp [*]; done)), H', ⟨by have := HK1.out; omega⟩, by repeat (first | exact Drawn0.refl _ | apply Drawn0.step)⟩
     ·rw [if_neg c6] at H
      have c6b0 : ((Int.tmod x1_1 2) == 1) = false := beq_eq_false_iff_ne.mpr c6
      have c6b1 : ((Int.tmod x1_1 2) != 1) = true := bne_iff_ne.mpr c6
      replace H := Option.bind_eq_some_iff.mp H
      obtain ⟨t152, A90, H⟩ := H
      replace H : (epicycleref02_Mul.l0 k1 t152 (IntKind.u64.wrap (Int.tdiv x1_1 2)) a2 x7_1) = some r := H
      have A9 := Aside0.mk A90
      clear A90
      have H' := Aside0.mk H
      clear H
      go_wp2_with (first | ((with_reducible refine gate_callee (f := 23) rfl ?_); refine goesL_ (some 23) rfl rfl Try.func23 (by kernel_rfl) rfl #[.int .u64 x0_1, .int .u64 x0_1, .int .u64 a2] rfl (by (try simp only [List.map_toArray, List.map_cons, List.map_nil]); first | done | rfl | (simp only [List.length_drop, List.length_take]; rfl)) ?_; (with_reducible refine (epicycleref02_Add.calls x0_1 x0_1 a2 t152 _ A9.out).mono ?_); rintro e w' ⟨rfl, ⟨nd, rfl⟩⟩; refine ⟨_, rfl, ?_⟩))
      go_roundg k1
      case measure => have := HK1.out; omega
      case rel => exact ⟨(t152), (IntKind.u64.wrap (Int.tdiv x1_1 2)), (x7_1), (by first | rfl | (simp; done) | (simp [*]; done)), (by first | rfl | (simp; done) | (simp [*]; done)), (by first | rfl | (simp; done) | (simp [*]; done)), H', ⟨by have := HK1.out; omega⟩, by repeat (first | exact Drawn0.refl _ | apply Drawn0.step)⟩
    ·rw [if_neg c5] at H
     have c5b0 : decide (0 < x1_1) = false := decide_eq_false c5
     clear c5
     obtain rfl := Option.some.inj H
     go_wp2
     go_ret
     exact ⟨by first | rfl | (simp; done) | (simp [*]; done), by repeat (first | exact Drawn0.refl _ | apply Drawn0.step)⟩

/-! ### epicycleref02_Pow: function 28 -/
def epicycleref02_Pow.f : Nat → Int → Int → Int → Option (Int)
 | 0, _, _, _ => none
 | k + 1, a0, a1, a2 => if a1 = 0 then (if a2 = 0 then (none) else (some ((1 : Int) % a2))) else ((epicycleref02_Pow.f k a0 (IntKind.u64.wrap (Int.tdiv a1 2)) a2).bind fun t153 => ((epicycleref02_Mul.f k t153 t153 a2).bind fun t154 => (if (Int.tmod a1 2) = 1 then ((epicycleref02_Mul.f k t154 a0 a2).bind fun t155 => (some t155)) else (some t154))))
theorem epicycleref02_Pow.mono_l : ∀ k, (∀ y0 y1 y2, LeO (epicycleref02_Pow.f k y0 y1 y2) (epicycleref02_Pow.f (k + 1) y0 y1 y2))
 | 0 => fun _ _ _ r h => by simp [epicycleref02_Pow.f] at h
 | k + 1 => by
  have ih0 := epicycleref02_Pow.mono_l k
  ·intro y0 y1 y2
   unfold epicycleref02_Pow.f
   repeat' first
   | (with_reducible exact ih0 _ _ _)
   | (with_reducible exact epicycleref02_Mul.mono _ _ _ _)
   | (with_reducible exact LeO.refl _)
   | (with_reducible exact LeO.none _)
   | (with_reducible refine LeO.ite ?_ ?_)
   | (with_reducible refine LeO.bind ?_ (fun _ => ?_))
   | exact ih0 _ _ _
   | exact epicycleref02_Mul.mono _ _ _ _
   | exact LeO.none _
   | refine LeO.ite ?_ ?_
   | refine LeO.bind ?_ (fun _ => ?_)
theorem epicycleref02_Pow.mono : ∀ a0 a1 a2 k, LeO (epicycleref02_Pow.f k a0 a1 a2) (epicycleref02_Pow.f (k + 1) a0 a1 a2) := by
 intro a0 a1 a2 k
 have ih0 := epicycleref02_Pow.mono_l k
 exact ih0 a0 a1 a2
set_option maxHeartbeats 8000000 in
set_option maxRecDepth 100000 in
theorem epicycleref02_Pow.calls (k : Nat) : ∀ (a0 : Int) (a1 : Int) (a2 : Int) (r : Int) (w : World) (h : epicycleref02_Pow.f k a0 a1 a2 = some r),
  Calls Try.prog 28 #[.int .u64 a0, .int .u64 a1, .int .u64 a2] w fun e w' => e = .returned (.int .u64 r) ∧ Drawn0 w w' := by
 induction k using Nat.strongRecOn with
 | _ k ih =>
 intro a0 a1 a2 r w h
 cases k with
 | zero => exact absurd h (by simp [epicycleref02_Pow.f])
 | succ k =>
 simp only [epicycleref02_Pow.f] at h
 have H : (if a1 = 0 then (if a2 = 0 then (none) else (some ((1 : Int) % a2))) else ((epicycleref02_Pow.f k a0 (IntKind.u64.wrap (Int.tdiv a1 2)) a2).bind fun t153 => ((epicycleref02_Mul.f k t153 t153 a2).bind fun t154 => (if (Int.tmod a1 2) = 1 then ((epicycleref02_Mul.f k t154 a0 a2).bind fun t155 => (some t155)) else (some t154))))) = some r := h
 clear h
 by_cases c4 : a1 = 0
 ·rw [if_pos c4] at H
  have c4b0 : (a1 == 0) = true := beq_iff_eq.mpr c4
  have c4b1 : (a1 != 0) = false := bne_eq_false_iff_eq.mpr c4
  clear c4
  by_cases c5 : a2 = 0
  ·rw [if_pos c5] at H
   exact absurd H (by simp)
  ·rw [if_neg c5] at H
   have c5b0 : (a2 == 0) = false := beq_eq_false_iff_ne.mpr c5
   have c5b1 : (a2 != 0) = true := bne_iff_ne.mpr c5
   obtain rfl := Option.some.inj H
   go_enter Try.func28, Try.ntmps28
   go_wp2
   go_ret
   exact ⟨by first | rfl | (simp; done) | (simp [*]; done), by repeat (first | exact Drawn0.refl _ | apply Drawn0.step)⟩
 ·rw [if_neg c4] at H
  have c4b0 : (a1 == 0) = false := beq_eq_false_iff_ne.mpr c4
  have c4b1 : (a1 != 0) = true := bne_iff_ne.mpr c4
  replace H := Option.bind_eq_some_iff.mp H
  obtain ⟨t153, A60, H⟩ := H
  replace H : ((epicycleref02_Mul.f k t153 t153 a2).bind fun t154 => (if (Int.tmod a1 2) = 1 then ((epicycleref02_Mul.f k t154 a0 a2).bind fun t155 => (some t155)) else (some t154))) = some r := H
  have A6 := Aside0.mk A60
  clear A60
  replace H := Option.bind_eq_some_iff.mp H
  obtain ⟨t154, A70, H⟩ := H
  replace H : (if (Int.tmod a1 2) = 1 then ((epicycleref02_Mul.f k t154 a0 a2).bind fun t155 => (some t155)) else (some t154)) = some r := H
  have A7 := Aside0.mk A70
  clear A70
  by_cases c8 : (Int.tmod a1 2) = 1
  ·rw [if_pos c8] at H
   have c8b0 : ((Int.tmod a1 2) == 1) = true := beq_iff_eq.mpr c8
   have c8b1 : ((Int.tmod a1 2) != 1) = false := bne_eq_false_iff_eq.mpr c8
   clear c8
   replace H := Option.bind_eq_some_iff.mp H
   obtain ⟨t155, A90, H⟩ := H
   replace H : (some t155) = some r := H
   have A9 := Aside0.mk A90
   clear A90
   obtain rfl := Option.some.inj H
   go_enter Try.func28, Try.ntmps28
   go_wp2_with (first | ((with_reducible refine gate_callee (f := 28) rfl ?_); refine goesL_ (some 17) rfl rfl Try.func28 (by kernel_rfl) rfl #[.int .u64 a0, .int .u64 (IntKind.u64.wrap (Int.tdiv a1 2)), .int .u64 a2] rfl (by (try simp only [List.map_toArray, List.map_cons, List.map_nil]); first | done | rfl | (simp only [List.length_drop, List.length_take]; rfl)) ?_; (with_reducible refine (ih k (by omega) a0 (IntKind.u64.wrap (Int.tdiv a1 2)) a2 t153 _ A6.out).mono ?_); rintro e w' ⟨rfl, ⟨nd, rfl⟩⟩; refine ⟨_, rfl, ?_⟩) | ((with_reducible refine gate_callee (f := 21) rfl ?_); refine goesL_ (some 21) rfl rfl Try.func21 (by kernel_rfl) rfl #[.int .u64 t153, .int .u64 t153, .int .u64 a2] rfl (by (try simp only [List.map_toArray, List.map_cons, List.map_nil]); first | done | rfl | (simp only [List.length_drop, List.length_take]; rfl)) ?_; (with_reducible refine (epicycleref02_Mul.calls k t153 t153 a2 t154 _ A7.out).mono ?_); rintro e w' ⟨rfl, ⟨nd, rfl⟩⟩; refine ⟨_, rfl, ?_⟩) | ((with_reducible refine gate_callee (f := 21) rfl ?_); refine goesL_ (some 28) rfl rfl Try.func21 (by kernel_rfl) rfl #[.int .u64 t154, .int .u64 a0, .int .u64 a2] rfl (by (try simp only [List.map_toArray, List.map_cons, List.map_nil]); first | done | rfl | (simp only [List.length_drop, List.length_take]; rfl)) ?_; (with_reducible refine (epicycleref02_Mul.calls k t154 a0 a2 t155 _ A9.out).mono ?_); rintro e w' ⟨rfl, ⟨nd, rfl⟩⟩; refine ⟨_, rfl, ?_⟩))
   go_ret
   exact ⟨by first | rfl | (simp; done) | (simp [*]; done), by repeat (first | exact Drawn0.refl _ | apply Drawn0.step)⟩
  ·rw [if_neg c8] at H
   have c8b0 : ((Int.tmod a1 2) == 1) = false := beq_eq_false_iff_ne.mpr c8
   have c8b1 : ((Int.tmod a1 2) != 1) = true := bne_iff_ne.mpr c8
   obtain rfl := Option.some.inj H
   go_enter Try.func28, Try.ntmps28
   go_wp2_with (first | ((with_reducible refine gate_callee (f := 28) rfl ?_); refine goesL_ (some 17) rfl rfl Try.func28 (by kernel_rfl) rfl #[.int .u64 a0, .int .u64 (IntKind.u64.wrap (Int.tdiv a1 2)), .int .u64 a2] rfl (by (try simp only [List.map_toArray, List.map_cons, List.map_nil]); first | done | rfl | (simp only [List.length_drop, List.length_take]; rfl)) ?_; (with_reducible refine (ih k (by omega) a0 (IntKind.u64.wrap (Int.tdiv a1 2)) a2 t153 _ A6.out).mono ?_); rintro e w' ⟨rfl, ⟨nd, rfl⟩⟩; refine ⟨_, rfl, ?_⟩) | ((with_reducible refine gate_callee (f := 21) rfl ?_); refine goesL_ (some 21) rfl rfl Try.func21 (by kernel_rfl) rfl #[.int .u64 t153, .int .u64 t153, .int .u64 a2] rfl (by (try simp only [List.map_toArray, List.map_cons, List.map_nil]); first | done | rfl | (simp only [List.length_drop, List.length_take]; rfl)) ?_; (with_reducible refine (epicycleref02_Mul.calls k t153 t153 a2 t154 _ A7.out).mono ?_); rintro e w' ⟨rfl, ⟨nd, rfl⟩⟩; refine ⟨_, rfl, ?_⟩))
   go_ret
   exact ⟨by first | rfl | (simp; done) | (simp [*]; done), by repeat (first | exact Drawn0.refl _ | apply Drawn0.step)⟩

/-! ### epicycleref04_Claimed: function 39 -/
def epicycleref04_Claimed.l0 : Nat → Int → List (S46) → Int → Int → Option (Bool)
 | 0, _, _, _, _ => none
 | k + 1, x1, x7, x8, x9 => if x9 < x8 then (if 0 ≤ x9 then (if x9 < (x7.length : Int) then (if ((rd_T46 x7 x9).f0) = x1 then (some true) else (epicycleref04_Claimed.l0 k x1 x7 x8 (wrap64 (x9 + 1)))) else (none)) else (none)) else (some false)
def epicycleref04_Claimed.f (k : Nat) (l0 : List (S46)) (a1 : Int) : Option (Bool) := epicycleref04_Claimed.l0 k a1 l0 (l0.length : Int) 0
theorem epicycleref04_Claimed.mono_l : ∀ k, (∀ y0 y1 y2 y3, LeO (epicycleref04_Claimed.l0 k y0 y1 y2 y3) (epicycleref04_Claimed.l0 (k + 1) y0 y1 y2 y3))
 | 0 => fun _ _ _ _ r h => by simp [epicycleref04_Claimed.l0] at h
 | k + 1 => by
  have ih0 := epicycleref04_Claimed.mono_l k
  ·intro y0 y1 y2 y3
   unfold epicycleref04_Claimed.l0
   repeat' first
   | (with_reducible exact ih0 _ _ _ _)
   | (with_reducible exact LeO.refl _)
   | (with_reducible exact LeO.none _)
   | (with_reducible refine LeO.ite ?_ ?_)
   | (with_reducible refine LeO.bind ?_ (fun _ => ?_))
   | exact ih0 _ _ _ _
   | exact LeO.none _
   | refine LeO.ite ?_ ?_
   | refine LeO.bind ?_ (fun _ => ?_)
theorem epicycleref04_Claimed.mono : ∀ a0 a1 k, LeO (epicycleref04_Claimed.f k a0 a1) (epicycleref04_Claimed.f (k + 1) a0 a1) := by
 intro a0 a1 k
 have ih0 := epicycleref04_Claimed.mono_l k
 unfold epicycleref04_Claimed.f
 repeat' first
   | (with_reducible exact ih0 _ _ _ _)
   | (with_reducible exact LeO.refl _)
   | (with_reducible exact LeO.none _)
   | (with_reducible refine LeO.ite ?_ ?_)
   | (with_reducible refine LeO.bind ?_ (fun _ => ?_))
   | exact ih0 _ _ _ _
   | exact LeO.none _
   | refine LeO.ite ?_ ?_
   | refine LeO.bind ?_ (fun _ => ?_)
set_option maxHeartbeats 8000000 in
set_option maxRecDepth 100000 in
theorem epicycleref04_Claimed.calls (k : Nat) (A0 : Option Addr) (c0 : Nat) (l0 : List (S46)) (a1 : Int) (r : Bool) (w : World) (hr0 : Kd.C k46 w A0 l0.length l0) (hc0 : l0.length ≤ c0) (h : epicycleref04_Claimed.f k l0 a1 = some r) :
  Calls Try.prog 39 #[.slice A0 l0.length c0, .int .u64 a1] w fun e w' => e = .returned (.bool r) ∧ Below w.heap.size w w' := by
 have hu46 := Try.underlying46
 have HR0 := Aside0.mk hr0
 have HC0 := Aside0.mk hc0
 clear hr0 hc0
 have HB := Aside0.mk (Below.refl w.heap.size w)
 have H : (epicycleref04_Claimed.l0 k a1 l0 (l0.length : Int) 0) = some r := h
 clear h
 have H' := Aside0.mk H
 clear H
 go_enter Try.func39, Try.ntmps39
 go_wp2
 go_loopg [9] k (fun kq v9 w' => ∃ (x9_1 : Int), v9 = .int .i64 x9_1 ∧ Aside0 (epicycleref04_Claimed.l0 kq a1 l0 (l0.length : Int) x9_1 = some r) ∧ Aside0 (kq ≤ k) ∧ Aside0 (Below w.heap.size w w'))
 case atStart => exact ⟨(0), (by first | rfl | (simp; done) | (simp [*]; done)), H', ⟨Nat.le_refl _⟩, ⟨by repeat (first | (with_reducible first | exact HB.out | apply below_alloc | apply pw_below_drewN | apply below_drew1) | exact HB.out)⟩⟩
 case round =>
  clear H'
  try clear p2
  obtain ⟨x9_1, rfl, HA, HK1, HB⟩ := hrel
  cases gk with
  | zero => exact absurd HA.out (by simp [epicycleref04_Claimed.l0])
  | succ k1 =>
   have H := HA.out
   clear HA
   simp only [epicycleref04_Claimed.l0] at H
   by_cases c3 : x9_1 < (l0.length : Int)
   ·rw [if_pos c3] at H
    have c3b0 : decide (x9_1 < (l0.length : Int)) = true := decide_eq_true c3
    clear c3
    by_cases c4 : 0 ≤ x9_1
    ·rw [if_pos c4] at H
     have c4b0 : decide (0 ≤ x9_1) = true := decide_eq_true c4
     clear c4
     by_cases c5 : x9_1 < (l0.length : Int)
     ·rw [if_pos c5] at H
      have c5b0 : decide (x9_1 < (l0.length : Int)) = true := decide_eq_true c5
      clear c5
      by_cases c6 : ((rd_T46 l0 x9_1).f0) = a1
      ·rw [if_pos c6] at H
       have c6b0 : (((rd_T46 l0 x9_1).f0) == a1) = true := beq_iff_eq.mpr c6
       have c6b1 : (((rd_T46 l0 x9_1).f0) != a1) = false := bne_eq_false_iff_eq.mpr c6
       clear c6
       obtain rfl := Option.some.inj H
       have p156 : 0 ≤ (x9_1 : Int) := of_decide_eq_true (by first | (with_reducible assumption) | assumption)
       have q156 : x9_1 < (l0.length : Int) := of_decide_eq_true (by first | (with_reducible assumption) | assumption)
       obtain ⟨ad156, A156_2, c156_2, e156, hx156_0, hx156_1, hx156_2, hl156_2, hi156_2⟩ := at_T46 HR0.out x9_1 p156 q156
       cases e156
       replace hx156_0 := (HB.out.cell (World.block_lt_of_cell? w _ hx156_0)).trans hx156_0
       replace hx156_1 := (HB.out.cell (World.block_lt_of_cell? w _ hx156_1)).trans hx156_1
       replace hx156_2 := (HB.out.cell (World.block_lt_of_cell? w _ hx156_2)).trans hx156_2
       have HR156_2 := Aside0.mk hi156_2
       have HC156_2 := Aside0.mk hl156_2
       clear hi156_2 hl156_2
       replace p156 := eq_true p156
       replace q156 := eq_true q156
       go_wp2_with (first | ((with_reducible refine gate_dst (N := 6) rfl ?_); refine box_event ?hg (N := 6) ?hd (cs := #[.int .u64 0, .int .u64 0, .slice none 0 0]) (t := 46) ?hr ?_; (case hd => rfl); (case hg => rfl); (case hr => first | (go_simp; done) | (go_simp; rfl)); intro gb157 hg w7 hbox hb; have n0_ := Aside0.mk (below_step (by repeat (first | (with_reducible first | exact HB.out | apply below_alloc | apply pw_below_drewN | apply below_drew1) | exact HB.out)) hb); have n1_ := Aside0.mk (hbox); have n2_ := Aside0.mk ((by rw [hg]; exact (below_size (by repeat (first | (with_reducible first | exact HB.out | apply below_alloc | apply pw_below_drewN | apply below_drew1) | exact HB.out))) : w.heap.size ≤ gb157)); have n3_ := Aside0.mk ((by rw [hg]; exact (below_size (by repeat (first | (with_reducible first | exact HB.out | apply below_alloc | apply pw_below_drewN | apply below_drew1) | exact HB.out))) : w.heap.size ≤ gb157)); clear HB; have HB := n0_; have BK157 := n1_; have GW157 := n2_; have GE157 := n3_; clear n0_ n1_ n2_ n3_; clear hb hbox hg; have hcz8_0 : w7.cell? ⟨gb157, 0, none⟩ = some (.int .u64 0) := (blk_cell BK157.out 0).trans rfl; have hcz8_1 : w7.cell? ⟨gb157, 1, none⟩ = some (.int .u64 0) := (blk_cell BK157.out 1).trans rfl; have hcz8_2 : w7.cell? ⟨gb157, 2, none⟩ = some (.slice none 0 0) := (blk_cell BK157.out 2).trans rfl; have hfz8_0 := blk_frozen BK157.out 0; have hfz8_1 := blk_frozen BK157.out 1; have hfz8_2 := blk_frozen BK157.out 2))
       go_ret
       exact ⟨by first | rfl | (simp [errW_none, errW_some] <;> rfl) | (simp [*, errW_none, errW_some] <;> rfl), by repeat (first | (with_reducible first | exact HB.out | apply below_alloc | apply pw_below_drewN | apply below_drew1 | refine below_set ?_ GE157.out) | exact HB.out)⟩
      ·rw [if_neg c6] at H
       have c6b0 : (((rd_T46 l0 x9_1).f0) == a1) = false := beq_eq_false_iff_ne.mpr c6
       have c6b1 : (((rd_T46 l0 x9_1).f0) != a1) = true := bne_iff_ne.mpr c6
       have H' := Aside0.mk H
       clear H
       have p156 : 0 ≤ (x9_1 : Int) := of_decide_eq_true (by first | (with_reducible assumption) | assumption)
       have q156 : x9_1 < (l0.length : Int) := of_decide_eq_true (by first | (with_reducible assumption) | assumption)
       obtain ⟨ad156, A156_2, c156_2, e156, hx156_0, hx156_1, hx156_2, hl156_2, hi156_2⟩ := at_T46 HR0.out x9_1 p156 q156
       cases e156
       replace hx156_0 := (HB.out.cell (World.block_lt_of_cell? w _ hx156_0)).trans hx156_0
       replace hx156_1 := (HB.out.cell (World.block_lt_of_cell? w _ hx156_1)).trans hx156_1
       replace hx156_2 := (HB.out.cell (World.block_lt_of_cell? w _ hx156_2)).trans hx156_2
       have HR156_2 := Aside0.mk hi156_2
       have HC156_2 := Aside0.mk hl156_2
       clear hi156_2 hl156_2
       replace p156 := eq_true p156
       replace q156 := eq_true q156
       go_wp2_with (first | ((with_reducible refine gate_dst (N := 6) rfl ?_); refine box_event ?hg (N := 6) ?hd (cs := #[.int .u64 0, .int .u64 0, .slice none 0 0]) (t := 46) ?hr ?_; (case hd => rfl); (case hg => rfl); (case hr => first | (go_simp; done) | (go_simp; rfl)); intro gb157 hg w9 hbox hb; have n0_ := Aside0.mk (below_step (by repeat (first | (with_reducible first | exact HB.out | apply below_alloc | apply pw_below_drewN | apply below_drew1) | exact HB.out)) hb); have n1_ := Aside0.mk (hbox); have n2_ := Aside0.mk ((by rw [hg]; exact (below_size (by repeat (first | (with_reducible first | exact HB.out | apply below_alloc | apply pw_below_drewN | apply below_drew1) | exact HB.out))) : w.heap.size ≤ gb157)); have n3_ := Aside0.mk ((by rw [hg]; exact (below_size (by repeat (first | (with_reducible first | exact HB.out | apply below_alloc | apply pw_below_drewN | apply below_drew1) | exact HB.out))) : w.heap.size ≤ gb157)); clear HB; have HB := n0_; have BK157 := n1_; have GW157 := n2_; have GE157 := n3_; clear n0_ n1_ n2_ n3_; clear hb hbox hg; have hcz10_0 : w9.cell? ⟨gb157, 0, none⟩ = some (.int .u64 0) := (blk_cell BK157.out 0).trans rfl; have hcz10_1 : w9.cell? ⟨gb157, 1, none⟩ = some (.int .u64 0) := (blk_cell BK157.out 1).trans rfl; have hcz10_2 : w9.cell? ⟨gb157, 2, none⟩ = some (.slice none 0 0) := (blk_cell BK157.out 2).trans rfl; have hfz10_0 := blk_frozen BK157.out 0; have hfz10_1 := blk_frozen BK157.out 1; have hfz10_2 := blk_frozen BK157.out 2))
       go_roundg k1
       case measure => have := HK1.out; omega
       case rel => exact ⟨(wrap64 (x9_1 + 1)), (by first | rfl | (simp; done) | (simp [*]; done)), H', ⟨by have := HK1.out; omega⟩, ⟨by repeat (first | (with_reducible first | exact HB.out | apply below_alloc | apply pw_below_drewN | apply below_drew1 | refine below_set ?_ GE157.out) | exact HB.out)⟩⟩
     ·rw [if_neg c5] at H
      exact absurd H (by simp)
    ·rw [if_neg c4] at H
     exact absurd H (by simp)
   ·rw [if_neg c3] at H
    have c3b0 : decide (x9_1 < (l0.length : Int)) = false := decide_eq_false c3
    clear c3
    obtain rfl := Option.some.inj H
    go_wp2
    go_ret
    exact ⟨by first | rfl | (simp [errW_none, errW_some] <;> rfl) | (simp [*, errW_none, errW_some] <;> rfl), by repeat (first | (with_reducible first | exact HB.out | apply below_alloc | apply pw_below_drewN | apply below_drew1) | exact HB.out)⟩

end Go.Proofs.Ytcnnaciilphadaa.XP
