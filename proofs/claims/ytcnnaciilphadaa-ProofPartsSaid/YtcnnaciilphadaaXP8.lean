-- Printed by a program of this session (wip/tools/mkprint.py) out of the translation.
import Derived.Test.YtcnnaciilphadaaXP0
import Derived.Test.YtcnnaciilphadaaXP3
import Derived.Test.YtcnnaciilphadaaXP4
import Derived.Test.YtcnnaciilphadaaXP7h
import Derived.Test.YtcnnaciilphadaaGiven
import Derived.Test.YtcnnaciilphadaaGiven04
namespace Go.Proofs.Ytcnnaciilphadaa.XP
open Go.RowKit Go.Proofs.Ytcnnaciilphadaa.Given Go.Proofs.Ytcnnaciilphadaa.Given04 Go.Proofs.YtcnnaciilphadaaW.PrintWords Go.Proofs.YtcnnaciilphadaaW.PrintLast Go.Proofs.YtcnnaciilphadaaW.PrintMore
attribute [local go_sem] max2_int min2_int max_two min_two max_three min_three max_four min_four   -- for this text's walks alone
set_option linter.unusedVariables false
set_option linter.unusedSimpArgs false

/-! ### epicyclelaw04_ProofField: function 11 -/
mutual
def epicyclelaw04_ProofField.j0 : Nat → Int → Int → Bool → Option (Bool)
  | 0, _, _, _ => none
  | k + 1, x2, x11, x40 => if x40 = true then (some false) else (if x11 = 0 then (none) else (if (Int.tmod x2 x11) = 0 then (epicyclelaw04_ProofField.j1 k x2 x11 false) else ((epicycleref02_Pow.f k x2 (IntKind.u64.wrap (x11 - 1)) x11).bind fun t221 => (epicyclelaw04_ProofField.j1 k x2 x11 (t221 != 1)))))
def epicyclelaw04_ProofField.j1 : Nat → Int → Int → Bool → Option (Bool)
  | 0, _, _, _ => none
  | k + 1, x2, x11, x52 => if x52 = true then (some false) else ((epicycleref02_Mul.f k x2 x2 x11).bind fun t222 => (if t222 = 1 then (if x11 = 0 then (none) else (if (Int.tmod x2 x11) = 1 then (some true) else (some ((Int.tmod x2 x11) == (IntKind.u64.wrap (x11 - 1)))))) else (some true)))
end
def epicyclelaw04_ProofField.f (k : Nat) (l0 : List (S46)) (a1 : Int) (a2 : Int) (a3 : Int) : Option (Bool) := (epicyclelaw04_alive.f k).bind fun t212 => (if t212 = true then ((epicyclelaw04_held.f k l0 a1).bind fun bt213 => (if bt213.2.2.2 = true then ((epicycleref02_Mul.f k a2 a3 bt213.1).bind fun t220 => (if t220 = 0 then (if bt213.1 = 0 then (none) else (if (Int.tmod a2 bt213.1) = 0 then (epicyclelaw04_ProofField.j0 k a2 bt213.1 false) else (epicyclelaw04_ProofField.j0 k a2 bt213.1 ((Int.tmod a3 bt213.1) != 0)))) else (epicyclelaw04_ProofField.j0 k a2 bt213.1 false))) else (some true))) else (some false))
theorem epicyclelaw04_ProofField.mono_l : ∀ k, (∀ y0 y1 y2, LeO (epicyclelaw04_ProofField.j0 k y0 y1 y2) (epicyclelaw04_ProofField.j0 (k + 1) y0 y1 y2)) ∧ (∀ y0 y1 y2, LeO (epicyclelaw04_ProofField.j1 k y0 y1 y2) (epicyclelaw04_ProofField.j1 (k + 1) y0 y1 y2))
  | 0 => ⟨fun _ _ _ r h => by simp [epicyclelaw04_ProofField.j0] at h, fun _ _ _ r h => by simp [epicyclelaw04_ProofField.j1] at h⟩
  | k + 1 => by
    obtain ⟨ih0, ih1⟩ := epicyclelaw04_ProofField.mono_l k
    refine ⟨?_, ?_⟩
    · intro y0 y1 y2
      unfold epicyclelaw04_ProofField.j0
      repeat' first
      | (with_reducible exact ih0 _ _ _)
      | (with_reducible exact ih1 _ _ _)
      | (with_reducible exact epicyclelaw04_alive.mono _)
      | (with_reducible exact epicyclelaw04_held.mono _ _ _)
      | (with_reducible exact epicycleref02_Mul.mono _ _ _ _)
      | (with_reducible exact epicycleref02_Pow.mono _ _ _ _)
      | (with_reducible exact LeO.refl _)
      | (with_reducible exact LeO.none _)
      | (with_reducible refine LeO.ite ?_ ?_)
      | (with_reducible refine LeO.bind ?_ (fun _ => ?_))
      | exact ih0 _ _ _
      | exact ih1 _ _ _
      | exact epicyclelaw04_alive.mono _
      | exact epicyclelaw04_held.mono _ _ _
      | exact epicycleref02_Mul.mono _ _ _ _
      | exact epicycleref02_Pow.mono _ _ _ _
      | exact LeO.none _
      | refine LeO.ite ?_ ?_
      | refine LeO.bind ?_ (fun _ => ?_)
    · intro y0 y1 y2
      unfold epicyclelaw04_ProofField.j1
      repeat' first
      | (with_reducible exact ih0 _ _ _)
      | (with_reducible exact ih1 _ _ _)
      | (with_reducible exact epicyclelaw04_alive.mono _)
      | (with_reducible exact epicyclelaw04_held.mono _ _ _)
      | (with_reducible exact epicycleref02_Mul.mono _ _ _ _)
      | (with_reducible exact epicycleref02_Pow.mono _ _ _ _)
      | (with_reducible exact LeO.refl _)
      | (with_reducible exact LeO.none _)
      | (with_reducible refine LeO.ite ?_ ?_)
      | (with_reducible refine LeO.bind ?_ (fun _ => ?_))
      | exact ih0 _ _ _
      | exact ih1 _ _ _
      | exact epicyclelaw04_alive.mono _
      | exact epicyclelaw04_held.mono _ _ _
      | exact epicycleref02_Mul.mono _ _ _ _
      | exact epicycleref02_Pow.mono _ _ _ _
      | exact LeO.none _
      | refine LeO.ite ?_ ?_
      | refine LeO.bind ?_ (fun _ => ?_)
theorem epicyclelaw04_ProofField.mono : ∀ a0 a1 a2 a3 k, LeO (epicyclelaw04_ProofField.f k a0 a1 a2 a3) (epicyclelaw04_ProofField.f (k + 1) a0 a1 a2 a3) := by
  intro a0 a1 a2 a3 k
  obtain ⟨ih0, ih1⟩ := epicyclelaw04_ProofField.mono_l k
  unfold epicyclelaw04_ProofField.f
  repeat' first
      | (with_reducible exact ih0 _ _ _)
      | (with_reducible exact ih1 _ _ _)
      | (with_reducible exact epicyclelaw04_alive.mono _)
      | (with_reducible exact epicyclelaw04_held.mono _ _ _)
      | (with_reducible exact epicycleref02_Mul.mono _ _ _ _)
      | (with_reducible exact epicycleref02_Pow.mono _ _ _ _)
      | (with_reducible exact LeO.refl _)
      | (with_reducible exact LeO.none _)
      | (with_reducible refine LeO.ite ?_ ?_)
      | (with_reducible refine LeO.bind ?_ (fun _ => ?_))
      | exact ih0 _ _ _
      | exact ih1 _ _ _
      | exact epicyclelaw04_alive.mono _
      | exact epicyclelaw04_held.mono _ _ _
      | exact epicycleref02_Mul.mono _ _ _ _
      | exact epicycleref02_Pow.mono _ _ _ _
      | exact LeO.none _
      | refine LeO.ite ?_ ?_
      | refine LeO.bind ?_ (fun _ => ?_)
set_option maxHeartbeats 8000000 in
set_option maxRecDepth 100000 in
theorem epicyclelaw04_ProofField.calls (k : Nat) (A0 : Option Addr) (c0 : Nat) (l0 : List (S46)) (a1 : Int) (a2 : Int) (a3 : Int) (w : World) (hr0 : Kd.C k46 w A0 l0.length l0) (hc0 : l0.length ≤ c0) (h : epicyclelaw04_ProofField.f k l0 a1 a2 a3 = some true) :
    Calls Try.prog 11 #[.slice A0 l0.length c0, .int .i64 a1, .int .u64 a2, .int .u64 a3] w fun e w' => e = .returned (.bool true) ∧ Below w.heap.size w w' := by
  have hu46 := Try.underlying46
  have HR0 := Aside0.mk hr0
  have HC0 := Aside0.mk hc0
  clear hr0 hc0
  have HB := Aside0.mk (Below.refl w.heap.size w)
  have H : ((epicyclelaw04_alive.f k).bind fun t212 => (if t212 = true then ((epicyclelaw04_held.f k l0 a1).bind fun bt213 => (if bt213.2.2.2 = true then ((epicycleref02_Mul.f k a2 a3 bt213.1).bind fun t220 => (if t220 = 0 then (if bt213.1 = 0 then (none) else (if (Int.tmod a2 bt213.1) = 0 then (epicyclelaw04_ProofField.j0 k a2 bt213.1 false) else (epicyclelaw04_ProofField.j0 k a2 bt213.1 ((Int.tmod a3 bt213.1) != 0)))) else (epicyclelaw04_ProofField.j0 k a2 bt213.1 false))) else (some true))) else (some false))) = some true := h
  clear h
  replace H := Option.bind_eq_some_iff.mp H
  obtain ⟨t212, A50, H⟩ := H
  replace H : (if t212 = true then ((epicyclelaw04_held.f k l0 a1).bind fun bt213 => (if bt213.2.2.2 = true then ((epicycleref02_Mul.f k a2 a3 bt213.1).bind fun t220 => (if t220 = 0 then (if bt213.1 = 0 then (none) else (if (Int.tmod a2 bt213.1) = 0 then (epicyclelaw04_ProofField.j0 k a2 bt213.1 false) else (epicyclelaw04_ProofField.j0 k a2 bt213.1 ((Int.tmod a3 bt213.1) != 0)))) else (epicyclelaw04_ProofField.j0 k a2 bt213.1 false))) else (some true))) else (some false)) = some true := H
  have A5 := Aside0.mk A50
  clear A50
  by_cases c6 : t212 = true
  · subst c6
    have H1 : ((epicyclelaw04_held.f k l0 a1).bind fun bt213 => (if bt213.2.2.2 = true then ((epicycleref02_Mul.f k a2 a3 bt213.1).bind fun t220 => (if t220 = 0 then (if bt213.1 = 0 then (none) else (if (Int.tmod a2 bt213.1) = 0 then (epicyclelaw04_ProofField.j0 k a2 bt213.1 false) else (epicyclelaw04_ProofField.j0 k a2 bt213.1 ((Int.tmod a3 bt213.1) != 0)))) else (epicyclelaw04_ProofField.j0 k a2 bt213.1 false))) else (some true))) = some true := by rw [if_pos rfl] at H <;> exact H
    clear H
    have H := H1
    clear H1
    replace H := Option.bind_eq_some_iff.mp H
    obtain ⟨⟨t213, t214, t215, t218⟩, A70, H⟩ := H
    replace H : (if t218 = true then ((epicycleref02_Mul.f k a2 a3 t213).bind fun t220 => (if t220 = 0 then (if t213 = 0 then (none) else (if (Int.tmod a2 t213) = 0 then (epicyclelaw04_ProofField.j0 k a2 t213 false) else (epicyclelaw04_ProofField.j0 k a2 t213 ((Int.tmod a3 t213) != 0)))) else (epicyclelaw04_ProofField.j0 k a2 t213 false))) else (some true)) = some true := H
    have A7 := Aside0.mk A70
    clear A70
    by_cases c8 : t218 = true
    · subst c8
      have H1 : ((epicycleref02_Mul.f k a2 a3 t213).bind fun t220 => (if t220 = 0 then (if t213 = 0 then (none) else (if (Int.tmod a2 t213) = 0 then (epicyclelaw04_ProofField.j0 k a2 t213 false) else (epicyclelaw04_ProofField.j0 k a2 t213 ((Int.tmod a3 t213) != 0)))) else (epicyclelaw04_ProofField.j0 k a2 t213 false))) = some true := by rw [if_pos rfl] at H <;> exact H
      clear H
      have H := H1
      clear H1
      have HC9 := Aside0.mk H
      clear H
      go_enter Try.func11, Try.ntmps11
      go_upto_region 7 with (first | ((with_reducible refine gate_callee (f := 32) rfl ?_); refine goesL_ (some 12) rfl rfl Try.func32 (by kernel_rfl) rfl #[] rfl (by (try simp only [List.map_toArray, List.map_cons, List.map_nil]); first | done | rfl | (simp only [List.length_drop, List.length_take]; rfl)) ?_; (with_reducible refine (epicyclelaw04_alive.calls k  true _ A5.out).mono ?_); rintro e w10 ⟨rfl, hb⟩; refine ⟨_, rfl, ?_⟩; have n0_ := Aside0.mk (below_step (by repeat (first | (with_reducible first | exact HB.out | apply below_alloc | apply pw_below_drewN | apply below_drew1) | exact HB.out)) hb); clear HB; have HB := n0_; clear n0_; (try clear hb); (try clear hb2); (try clear hk); (try clear hi)) | ((with_reducible refine gate_callee (f := 37) rfl ?_); refine goesL_ (some 17) rfl rfl Try.func37 (by kernel_rfl) rfl #[.slice A0 l0.length c0, .int .i64 a1] rfl (by (try simp only [List.map_toArray, List.map_cons, List.map_nil]); first | done | rfl | (simp only [List.length_drop, List.length_take]; rfl)) ?_; (with_reducible refine (epicyclelaw04_held.calls k (fun k_ => k_ < w.heap.size) _ _ l0 a1 t213 t214 t215 true _ ?side1 A7.out).mono ?_); (case side1 => exact Kd.V_mk HC0.out (Kd.F_below (Kd.C_F k46_heap HR0.out) (by repeat (first | (with_reducible first | exact HB.out | apply below_alloc | apply pw_below_drewN | apply below_drew1) | exact HB.out)))); rintro e w11 ⟨v216, rfl, ho0, hb⟩; refine ⟨_, rfl, ?_⟩; have n0_ := Aside0.mk (Kd.V_lower (Kd.V_mono (ok' := fun k_ => True) ho0 (fun k_ hk_ => trivial)) (below_size (by repeat (first | (with_reducible first | exact HB.out | apply below_alloc | apply pw_below_drewN | apply below_drew1) | exact HB.out)))); have n1_ := Aside0.mk (below_step (by repeat (first | (with_reducible first | exact HB.out | apply below_alloc | apply pw_below_drewN | apply below_drew1) | exact HB.out)) hb); clear HB; have HO217 := n0_; have HB := n1_; clear n0_ n1_; (try clear hb); (try clear hb2); (try clear hk); (try clear hi); (try clear ho0)) | ((with_reducible refine gate_dst (N := 9) rfl ?_); refine box_event ?hg (N := 9) ?hd (cs := #[.int .u64 0, .int .u64 0, .slice none 0 0]) (t := 46) ?hr ?_; (case hd => rfl); (case hg => rfl); (case hr => first | (go_simp; done) | (go_simp; rfl)); intro gb219 hg w12 hbox hb; have n0_ := Aside0.mk (Kd.V_below (Kd.V_elderB (by (with_reducible repeat (first | apply Kd.V_alloc | apply Kd.V_drewN | apply Kd.V_drew)); exact HO217.out) gb219 (Nat.le_of_eq hg.symm)) hb); have n1_ := Aside0.mk (below_step (by repeat (first | (with_reducible first | exact HB.out | apply below_alloc | apply pw_below_drewN | apply below_drew1) | exact HB.out)) hb); have n2_ := Aside0.mk (hbox); have n3_ := Aside0.mk ((by rw [hg]; exact (below_size (by repeat (first | (with_reducible first | exact HB.out | apply below_alloc | apply pw_below_drewN | apply below_drew1) | exact HB.out))) : w.heap.size ≤ gb219)); have n4_ := Aside0.mk ((by rw [hg]; exact (below_size (by repeat (first | (with_reducible first | exact HB.out | apply below_alloc | apply pw_below_drewN | apply below_drew1) | exact HB.out))) : w.heap.size ≤ gb219)); clear HO217; clear HB; have HO217 := n0_; have HB := n1_; have BK219 := n2_; have GW219 := n3_; have GE219 := n4_; clear n0_ n1_ n2_ n3_ n4_; clear hb hbox hg; have hcz13_0 : w12.cell? ⟨gb219, 0, none⟩ = some (.int .u64 0) := (blk_cell BK219.out 0).trans rfl; have hcz13_1 : w12.cell? ⟨gb219, 1, none⟩ = some (.int .u64 0) := (blk_cell BK219.out 1).trans rfl; have hcz13_2 : w12.cell? ⟨gb219, 2, none⟩ = some (.slice none 0 0) := (blk_cell BK219.out 2).trans rfl; have hfz13_0 := blk_frozen BK219.out 0; have hfz13_1 := blk_frozen BK219.out 1; have hfz13_2 := blk_frozen BK219.out 2; obtain ⟨Ao14, co14, eo14⟩ := Kd.V_slice HO217.out; subst eo14))
      (try simp only [Act.put, List.setIfInBounds_toArray, List.set_cons_zero, List.set_cons_succ])
      go_cut [40] (fun v40 wc => ∃ (kq : Nat) (x40_8 : Bool), v40 = .bool x40_8 ∧ Aside0 (epicyclelaw04_ProofField.j0 kq a2 t213 x40_8 = some true) ∧ Aside0 (kq ≤ k) ∧ Aside0 (Kd.V k60 60 wc w.heap.size (fun k_ => k_ ≠ gb219) (.slice Ao14 t215.length co14) t215) ∧ Aside0 (wc.heap[gb219]? = some (.cells #[.int .u64 t213, .int .u64 t214, (.slice Ao14 t215.length co14)] 46 (0, 0))) ∧ Aside0 (Below w.heap.size w wc))
      case first =>
        have H := HC9.out
        clear HC9
        replace H := Option.bind_eq_some_iff.mp H
        obtain ⟨t220, A150, H⟩ := H
        replace H : (if t220 = 0 then (if t213 = 0 then (none) else (if (Int.tmod a2 t213) = 0 then (epicyclelaw04_ProofField.j0 k a2 t213 false) else (epicyclelaw04_ProofField.j0 k a2 t213 ((Int.tmod a3 t213) != 0)))) else (epicyclelaw04_ProofField.j0 k a2 t213 false)) = some true := H
        have A15 := Aside0.mk A150
        clear A150
        by_cases c16 : t220 = 0
        · rw [if_pos c16] at H
          have c16b0 : (t220 == 0) = true := beq_iff_eq.mpr c16
          have c16b1 : (t220 != 0) = false := bne_eq_false_iff_eq.mpr c16
          clear c16
          (first | rw [c16b0] | (simp only [i64_w, i32_w]; rw [c16b0]) | skip)
          by_cases c17 : t213 = 0
          · rw [if_pos c17] at H
            exact absurd H (by simp)
          · rw [if_neg c17] at H
            have c17b0 : (t213 == 0) = false := beq_eq_false_iff_ne.mpr c17
            have c17b1 : (t213 != 0) = true := bne_iff_ne.mpr c17
            by_cases c18 : (Int.tmod a2 t213) = 0
            · rw [if_pos c18] at H
              have c18b0 : ((Int.tmod a2 t213) == 0) = true := beq_iff_eq.mpr c18
              have c18b1 : ((Int.tmod a2 t213) != 0) = false := bne_eq_false_iff_eq.mpr c18
              clear c18
              have H' := Aside0.mk H
              clear H
              go_wp2_with (first | ((with_reducible refine gate_callee (f := 21) rfl ?_); refine goesL_ (some 27) rfl rfl Try.func21 (by kernel_rfl) rfl #[.int .u64 a2, .int .u64 a3, .int .u64 t213] rfl (by (try simp only [List.map_toArray, List.map_cons, List.map_nil]); first | done | rfl | (simp only [List.length_drop, List.length_take]; rfl)) ?_; (with_reducible refine (epicycleref02_Mul.calls k a2 a3 t213 t220 _ A15.out).mono ?_); rintro e w' ⟨rfl, ⟨nd, rfl⟩⟩; refine ⟨_, rfl, ?_⟩))
              go_meet
              case rel => exact ⟨_, (false), (by first | rfl | (simp; done) | (simp [*]; done)), H', ⟨by first | omega | exact Nat.le_refl _⟩, ⟨by (with_reducible repeat (first | apply Kd.V_alloc | apply Kd.V_drewN | apply Kd.V_drew)); exact Kd.V_mono (Kd.V_far (p := ⟨gb219, 2, none⟩) (Kd.V_far (p := ⟨gb219, 1, none⟩) (Kd.V_far (p := ⟨gb219, 0, none⟩) (Kd.V_mono HO217.out (fun k_ hk => (⟨hk, hk.2⟩ : _ ∧ k_ ≠ gb219))) (fun _ hk => hk.2) (.int .u64 t213)) (fun _ hk => hk.2) (.int .u64 t214)) (fun _ hk => hk.2) (.slice Ao14 t215.length co14)) (fun _ hk => hk.1.2)⟩, ⟨by (with_reducible repeat (first | refine blk_drewN ?_ _ | refine blk_drew ?_ | refine blk_alloc ?_ _)); refine blk_put (cs := #[.int .u64 t213, .int .u64 t214, .slice none 0 0]) ?_ 2 _ rfl; (with_reducible repeat (first | refine blk_drewN ?_ _ | refine blk_drew ?_ | refine blk_alloc ?_ _)); refine blk_put (cs := #[.int .u64 t213, .int .u64 0, .slice none 0 0]) ?_ 1 _ rfl; (with_reducible repeat (first | refine blk_drewN ?_ _ | refine blk_drew ?_ | refine blk_alloc ?_ _)); refine blk_put (cs := #[.int .u64 0, .int .u64 0, .slice none 0 0]) ?_ 0 _ rfl; (with_reducible repeat (first | refine blk_drewN ?_ _ | refine blk_drew ?_ | refine blk_alloc ?_ _)); exact BK219.out⟩, ⟨by repeat (first | (with_reducible first | exact HB.out | apply below_alloc | apply pw_below_drewN | apply below_drew1 | refine below_set ?_ GE219.out) | exact HB.out)⟩⟩
            · rw [if_neg c18] at H
              have c18b0 : ((Int.tmod a2 t213) == 0) = false := beq_eq_false_iff_ne.mpr c18
              have c18b1 : ((Int.tmod a2 t213) != 0) = true := bne_iff_ne.mpr c18
              have H' := Aside0.mk H
              clear H
              go_wp2_with (first | ((with_reducible refine gate_callee (f := 21) rfl ?_); refine goesL_ (some 27) rfl rfl Try.func21 (by kernel_rfl) rfl #[.int .u64 a2, .int .u64 a3, .int .u64 t213] rfl (by (try simp only [List.map_toArray, List.map_cons, List.map_nil]); first | done | rfl | (simp only [List.length_drop, List.length_take]; rfl)) ?_; (with_reducible refine (epicycleref02_Mul.calls k a2 a3 t213 t220 _ A15.out).mono ?_); rintro e w' ⟨rfl, ⟨nd, rfl⟩⟩; refine ⟨_, rfl, ?_⟩))
              go_meet
              case rel => exact ⟨_, (((Int.tmod a3 t213) != 0)), (by first | rfl | (simp; done) | (simp [*]; done)), H', ⟨by first | omega | exact Nat.le_refl _⟩, ⟨by (with_reducible repeat (first | apply Kd.V_alloc | apply Kd.V_drewN | apply Kd.V_drew)); exact Kd.V_mono (Kd.V_far (p := ⟨gb219, 2, none⟩) (Kd.V_far (p := ⟨gb219, 1, none⟩) (Kd.V_far (p := ⟨gb219, 0, none⟩) (Kd.V_mono HO217.out (fun k_ hk => (⟨hk, hk.2⟩ : _ ∧ k_ ≠ gb219))) (fun _ hk => hk.2) (.int .u64 t213)) (fun _ hk => hk.2) (.int .u64 t214)) (fun _ hk => hk.2) (.slice Ao14 t215.length co14)) (fun _ hk => hk.1.2)⟩, ⟨by (with_reducible repeat (first | refine blk_drewN ?_ _ | refine blk_drew ?_ | refine blk_alloc ?_ _)); refine blk_put (cs := #[.int .u64 t213, .int .u64 t214, .slice none 0 0]) ?_ 2 _ rfl; (with_reducible repeat (first | refine blk_drewN ?_ _ | refine blk_drew ?_ | refine blk_alloc ?_ _)); refine blk_put (cs := #[.int .u64 t213, .int .u64 0, .slice none 0 0]) ?_ 1 _ rfl; (with_reducible repeat (first | refine blk_drewN ?_ _ | refine blk_drew ?_ | refine blk_alloc ?_ _)); refine blk_put (cs := #[.int .u64 0, .int .u64 0, .slice none 0 0]) ?_ 0 _ rfl; (with_reducible repeat (first | refine blk_drewN ?_ _ | refine blk_drew ?_ | refine blk_alloc ?_ _)); exact BK219.out⟩, ⟨by repeat (first | (with_reducible first | exact HB.out | apply below_alloc | apply pw_below_drewN | apply below_drew1 | refine below_set ?_ GE219.out) | exact HB.out)⟩⟩
        · rw [if_neg c16] at H
          have c16b0 : (t220 == 0) = false := beq_eq_false_iff_ne.mpr c16
          have c16b1 : (t220 != 0) = true := bne_iff_ne.mpr c16
          (first | rw [c16b0] | (simp only [i64_w, i32_w]; rw [c16b0]) | skip)
          have H' := Aside0.mk H
          clear H
          go_wp2_with (first | ((with_reducible refine gate_callee (f := 21) rfl ?_); refine goesL_ (some 27) rfl rfl Try.func21 (by kernel_rfl) rfl #[.int .u64 a2, .int .u64 a3, .int .u64 t213] rfl (by (try simp only [List.map_toArray, List.map_cons, List.map_nil]); first | done | rfl | (simp only [List.length_drop, List.length_take]; rfl)) ?_; (with_reducible refine (epicycleref02_Mul.calls k a2 a3 t213 t220 _ A15.out).mono ?_); rintro e w' ⟨rfl, ⟨nd, rfl⟩⟩; refine ⟨_, rfl, ?_⟩))
          go_meet
          case rel => exact ⟨_, (false), (by first | rfl | (simp; done) | (simp [*]; done)), H', ⟨by first | omega | exact Nat.le_refl _⟩, ⟨by (with_reducible repeat (first | apply Kd.V_alloc | apply Kd.V_drewN | apply Kd.V_drew)); exact Kd.V_mono (Kd.V_far (p := ⟨gb219, 2, none⟩) (Kd.V_far (p := ⟨gb219, 1, none⟩) (Kd.V_far (p := ⟨gb219, 0, none⟩) (Kd.V_mono HO217.out (fun k_ hk => (⟨hk, hk.2⟩ : _ ∧ k_ ≠ gb219))) (fun _ hk => hk.2) (.int .u64 t213)) (fun _ hk => hk.2) (.int .u64 t214)) (fun _ hk => hk.2) (.slice Ao14 t215.length co14)) (fun _ hk => hk.1.2)⟩, ⟨by (with_reducible repeat (first | refine blk_drewN ?_ _ | refine blk_drew ?_ | refine blk_alloc ?_ _)); refine blk_put (cs := #[.int .u64 t213, .int .u64 t214, .slice none 0 0]) ?_ 2 _ rfl; (with_reducible repeat (first | refine blk_drewN ?_ _ | refine blk_drew ?_ | refine blk_alloc ?_ _)); refine blk_put (cs := #[.int .u64 t213, .int .u64 0, .slice none 0 0]) ?_ 1 _ rfl; (with_reducible repeat (first | refine blk_drewN ?_ _ | refine blk_drew ?_ | refine blk_alloc ?_ _)); refine blk_put (cs := #[.int .u64 0, .int .u64 0, .slice none 0 0]) ?_ 0 _ rfl; (with_reducible repeat (first | refine blk_drewN ?_ _ | refine blk_drew ?_ | refine blk_alloc ?_ _)); exact BK219.out⟩, ⟨by repeat (first | (with_reducible first | exact HB.out | apply below_alloc | apply pw_below_drewN | apply below_drew1 | refine below_set ?_ GE219.out) | exact HB.out)⟩⟩
      case rest =>
        clear HC9
        try clear c1
        try clear c2
        try clear p2
        try clear c3
        try clear c6
        try clear c8
        try clear c11
        try clear c16
        try clear c16b0
        try clear c16b1
        try clear c17
        try clear c17b0
        try clear c17b1
        try clear c18
        try clear c18b0
        try clear c18b1
        try clear hcz13_0
        try clear hcz13_1
        try clear hcz13_2
        try clear hfz13_0
        try clear hfz13_1
        try clear hfz13_2
        obtain ⟨kq, x40_8, rfl, HA, HJ8, HO_220002, BK219, HB⟩ := hcut
        cases kq with
        | zero => exact absurd HA.out (by simp [epicyclelaw04_ProofField.j0])
        | succ kj8 =>
          have H := HA.out
          clear HA
          simp only [epicyclelaw04_ProofField.j0] at H
          by_cases c19 : x40_8 = true
          · subst c19
            have H1 : (some false) = some true := by rw [if_pos rfl] at H <;> exact H
            clear H
            have H := H1
            clear H1
            exact absurd H (by simp)
          · replace c19 := Bool.eq_false_iff.mpr c19
            subst c19
            have H1 : (if t213 = 0 then (none) else (if (Int.tmod a2 t213) = 0 then (epicyclelaw04_ProofField.j1 kj8 a2 t213 false) else ((epicycleref02_Pow.f kj8 a2 (IntKind.u64.wrap (t213 - 1)) t213).bind fun t221 => (epicyclelaw04_ProofField.j1 kj8 a2 t213 (t221 != 1))))) = some true := by rw [if_neg (show ¬ (false = true) by decide)] at H <;> exact H
            clear H
            have H := H1
            clear H1
            have HC20 := Aside0.mk H
            clear H
            go_upto_region 9 with (fail)
            go_cut [52] (fun v52 wc => ∃ (kq : Nat) (x52_19 : Bool), v52 = .bool x52_19 ∧ Aside0 (epicyclelaw04_ProofField.j1 kq a2 t213 x52_19 = some true) ∧ Aside0 (kq ≤ kj8) ∧ Aside0 (Kd.V k60 60 wc w.heap.size (fun k_ => k_ ≠ gb219) (.slice Ao14 t215.length co14) t215) ∧ Aside0 (wc.heap[gb219]? = some (.cells #[.int .u64 t213, .int .u64 t214, (.slice Ao14 t215.length co14)] 46 (0, 0))) ∧ Aside0 (Below w.heap.size w wc))
            case first =>
              have H := HC20.out
              clear HC20
              by_cases c21 : t213 = 0
              · rw [if_pos c21] at H
                exact absurd H (by simp)
              · rw [if_neg c21] at H
                have c21b0 : (t213 == 0) = false := beq_eq_false_iff_ne.mpr c21
                have c21b1 : (t213 != 0) = true := bne_iff_ne.mpr c21
                (first | rw [c21b0] | (simp only [i64_w, i32_w]; rw [c21b0]) | skip)
                by_cases c22 : (Int.tmod a2 t213) = 0
                · rw [if_pos c22] at H
                  have c22b0 : ((Int.tmod a2 t213) == 0) = true := beq_iff_eq.mpr c22
                  have c22b1 : ((Int.tmod a2 t213) != 0) = false := bne_eq_false_iff_eq.mpr c22
                  clear c22
                  have H' := Aside0.mk H
                  clear H
                  go_wp2
                  go_meet
                  case rel => exact ⟨_, (false), (by first | rfl | (simp; done) | (simp [*]; done)), H', ⟨by have := HJ8.out; first | omega | exact Nat.le_refl _⟩, ⟨by (with_reducible repeat (first | apply Kd.V_alloc | apply Kd.V_drewN | apply Kd.V_drew)); exact HO_220002.out⟩, ⟨by (with_reducible repeat (first | refine blk_drewN ?_ _ | refine blk_drew ?_ | refine blk_alloc ?_ _)); exact BK219.out⟩, ⟨by repeat (first | (with_reducible first | exact HB.out | apply below_alloc | apply pw_below_drewN | apply below_drew1 | refine below_set ?_ GE219.out) | exact HB.out)⟩⟩
                · rw [if_neg c22] at H
                  have c22b0 : ((Int.tmod a2 t213) == 0) = false := beq_eq_false_iff_ne.mpr c22
                  have c22b1 : ((Int.tmod a2 t213) != 0) = true := bne_iff_ne.mpr c22
                  replace H := Option.bind_eq_some_iff.mp H
                  obtain ⟨t221, A230, H⟩ := H
                  replace H : (epicyclelaw04_ProofField.j1 kj8 a2 t213 (t221 != 1)) = some true := H
                  have A23 := Aside0.mk A230
                  clear A230
                  have H' := Aside0.mk H
                  clear H
                  go_wp2_with (first | (go_at_call 28; (with_reducible refine (epicycleref02_Pow.calls kj8 a2 (IntKind.u64.wrap (t213 - 1)) t213 t221 _ A23.out).mono ?_); rintro e w' ⟨rfl, ⟨nd, rfl⟩⟩))
                  go_meet
                  case rel => exact ⟨_, ((t221 != 1)), (by first | rfl | (simp; done) | (simp [*]; done)), H', ⟨by have := HJ8.out; first | omega | exact Nat.le_refl _⟩, ⟨by (with_reducible repeat (first | apply Kd.V_alloc | apply Kd.V_drewN | apply Kd.V_drew)); exact HO_220002.out⟩, ⟨by (with_reducible repeat (first | refine blk_drewN ?_ _ | refine blk_drew ?_ | refine blk_alloc ?_ _)); exact BK219.out⟩, ⟨by repeat (first | (with_reducible first | exact HB.out | apply below_alloc | apply pw_below_drewN | apply below_drew1 | refine below_set ?_ GE219.out) | exact HB.out)⟩⟩
            case rest =>
              clear HC20
              try clear c1
              try clear c2
              try clear p2
              try clear c3
              try clear c6
              try clear c8
              try clear c11
              try clear c16
              try clear c16b0
              try clear c16b1
              try clear c17
              try clear c17b0
              try clear c17b1
              try clear c18
              try clear c18b0
              try clear c18b1
              try clear c19
              try clear c21
              try clear c21b0
              try clear c21b1
              try clear c22
              try clear c22b0
              try clear c22b1
              try clear hcz13_0
              try clear hcz13_1
              try clear hcz13_2
              try clear hfz13_0
              try clear hfz13_1
              try clear hfz13_2
              try clear p2
              obtain ⟨kq, x52_19, rfl, HA, HJ19, HO_220002, BK219, HB⟩ := hcut
              cases kq with
              | zero => exact absurd HA.out (by simp [epicyclelaw04_ProofField.j1])
              | succ kj19 =>
                have H := HA.out
                clear HA
                simp only [epicyclelaw04_ProofField.j1] at H
                by_cases c24 : x52_19 = true
                · subst c24
                  have H1 : (some false) = some true := by rw [if_pos rfl] at H <;> exact H
                  clear H
                  have H := H1
                  clear H1
                  exact absurd H (by simp)
                · replace c24 := Bool.eq_false_iff.mpr c24
                  subst c24
                  have H1 : ((epicycleref02_Mul.f kj19 a2 a2 t213).bind fun t222 => (if t222 = 1 then (if t213 = 0 then (none) else (if (Int.tmod a2 t213) = 1 then (some true) else (some ((Int.tmod a2 t213) == (IntKind.u64.wrap (t213 - 1)))))) else (some true))) = some true := by rw [if_neg (show ¬ (false = true) by decide)] at H <;> exact H
                  clear H
                  have H := H1
                  clear H1
                  replace H := Option.bind_eq_some_iff.mp H
                  obtain ⟨t222, A250, H⟩ := H
                  replace H : (if t222 = 1 then (if t213 = 0 then (none) else (if (Int.tmod a2 t213) = 1 then (some true) else (some ((Int.tmod a2 t213) == (IntKind.u64.wrap (t213 - 1)))))) else (some true)) = some true := H
                  have A25 := Aside0.mk A250
                  clear A250
                  by_cases c26 : t222 = 1
                  · rw [if_pos c26] at H
                    have c26b0 : (t222 == 1) = true := beq_iff_eq.mpr c26
                    have c26b1 : (t222 != 1) = false := bne_eq_false_iff_eq.mpr c26
                    clear c26
                    by_cases c27 : t213 = 0
                    · rw [if_pos c27] at H
                      exact absurd H (by simp)
                    · rw [if_neg c27] at H
                      have c27b0 : (t213 == 0) = false := beq_eq_false_iff_ne.mpr c27
                      have c27b1 : (t213 != 0) = true := bne_iff_ne.mpr c27
                      by_cases c28 : (Int.tmod a2 t213) = 1
                      · rw [if_pos c28] at H
                        have c28b0 : ((Int.tmod a2 t213) == 1) = true := beq_iff_eq.mpr c28
                        have c28b1 : ((Int.tmod a2 t213) != 1) = false := bne_eq_false_iff_eq.mpr c28
                        clear c28
                        clear H
                        go_wp2_with (first | ((with_reducible refine gate_callee (f := 21) rfl ?_); refine goesL_ (some 56) rfl rfl Try.func21 (by kernel_rfl) rfl #[.int .u64 a2, .int .u64 a2, .int .u64 t213] rfl (by (try simp only [List.map_toArray, List.map_cons, List.map_nil]); first | done | rfl | (simp only [List.length_drop, List.length_take]; rfl)) ?_; (with_reducible refine (epicycleref02_Mul.calls kj19 a2 a2 t213 t222 _ A25.out).mono ?_); rintro e w' ⟨rfl, ⟨nd, rfl⟩⟩; refine ⟨_, rfl, ?_⟩))
                        go_ret
                        exact ⟨by first | rfl | (simp [errW_none, errW_some] <;> rfl) | (simp [*, errW_none, errW_some] <;> rfl), by repeat (first | (with_reducible first | exact HB.out | apply below_alloc | apply pw_below_drewN | apply below_drew1 | refine below_set ?_ GE219.out) | exact HB.out)⟩
                      · rw [if_neg c28] at H
                        have c28b0 : ((Int.tmod a2 t213) == 1) = false := beq_eq_false_iff_ne.mpr c28
                        have c28b1 : ((Int.tmod a2 t213) != 1) = true := bne_iff_ne.mpr c28
                        have hR_ := Option.some.inj H
                        go_wp2_with (first | ((with_reducible refine gate_callee (f := 21) rfl ?_); refine goesL_ (some 56) rfl rfl Try.func21 (by kernel_rfl) rfl #[.int .u64 a2, .int .u64 a2, .int .u64 t213] rfl (by (try simp only [List.map_toArray, List.map_cons, List.map_nil]); first | done | rfl | (simp only [List.length_drop, List.length_take]; rfl)) ?_; (with_reducible refine (epicycleref02_Mul.calls kj19 a2 a2 t213 t222 _ A25.out).mono ?_); rintro e w' ⟨rfl, ⟨nd, rfl⟩⟩; refine ⟨_, rfl, ?_⟩))
                        go_ret
                        exact ⟨by first | rfl | (simp [errW_none, errW_some] <;> rfl) | (simp [*, errW_none, errW_some] <;> rfl), by repeat (first | (with_reducible first | exact HB.out | apply below_alloc | apply pw_below_drewN | apply below_drew1 | refine below_set ?_ GE219.out) | exact HB.out)⟩
                  · rw [if_neg c26] at H
                    have c26b0 : (t222 == 1) = false := beq_eq_false_iff_ne.mpr c26
                    have c26b1 : (t222 != 1) = true := bne_iff_ne.mpr c26
                    clear H
                    go_wp2_with (first | ((with_reducible refine gate_callee (f := 21) rfl ?_); refine goesL_ (some 56) rfl rfl Try.func21 (by kernel_rfl) rfl #[.int .u64 a2, .int .u64 a2, .int .u64 t213] rfl (by (try simp only [List.map_toArray, List.map_cons, List.map_nil]); first | done | rfl | (simp only [List.length_drop, List.length_take]; rfl)) ?_; (with_reducible refine (epicycleref02_Mul.calls kj19 a2 a2 t213 t222 _ A25.out).mono ?_); rintro e w' ⟨rfl, ⟨nd, rfl⟩⟩; refine ⟨_, rfl, ?_⟩))
                    go_ret
                    exact ⟨by first | rfl | (simp [errW_none, errW_some] <;> rfl) | (simp [*, errW_none, errW_some] <;> rfl), by repeat (first | (with_reducible first | exact HB.out | apply below_alloc | apply pw_below_drewN | apply below_drew1 | refine below_set ?_ GE219.out) | exact HB.out)⟩
    · replace c8 := Bool.eq_false_iff.mpr c8
      subst c8
      have H1 : (some true) = some true := by rw [if_neg (show ¬ (false = true) by decide)] at H <;> exact H
      clear H
      have H := H1
      clear H1
      clear H
      go_enter Try.func11, Try.ntmps11
      go_wp2_with (first | ((with_reducible refine gate_callee (f := 32) rfl ?_); refine goesL_ (some 12) rfl rfl Try.func32 (by kernel_rfl) rfl #[] rfl (by (try simp only [List.map_toArray, List.map_cons, List.map_nil]); first | done | rfl | (simp only [List.length_drop, List.length_take]; rfl)) ?_; (with_reducible refine (epicyclelaw04_alive.calls k  true _ A5.out).mono ?_); rintro e w29 ⟨rfl, hb⟩; refine ⟨_, rfl, ?_⟩; have n0_ := Aside0.mk (below_step (by repeat (first | (with_reducible first | exact HB.out | apply below_alloc | apply pw_below_drewN | apply below_drew1) | exact HB.out)) hb); clear HB; have HB := n0_; clear n0_; (try clear hb); (try clear hb2); (try clear hk); (try clear hi)) | ((with_reducible refine gate_callee (f := 37) rfl ?_); refine goesL_ (some 17) rfl rfl Try.func37 (by kernel_rfl) rfl #[.slice A0 l0.length c0, .int .i64 a1] rfl (by (try simp only [List.map_toArray, List.map_cons, List.map_nil]); first | done | rfl | (simp only [List.length_drop, List.length_take]; rfl)) ?_; (with_reducible refine (epicyclelaw04_held.calls k (fun k_ => k_ < w.heap.size) _ _ l0 a1 t213 t214 t215 false _ ?side1 A7.out).mono ?_); (case side1 => exact Kd.V_mk HC0.out (Kd.F_below (Kd.C_F k46_heap HR0.out) (by repeat (first | (with_reducible first | exact HB.out | apply below_alloc | apply pw_below_drewN | apply below_drew1) | exact HB.out)))); rintro e w30 ⟨v216, rfl, ho0, hb⟩; refine ⟨_, rfl, ?_⟩; have n0_ := Aside0.mk (Kd.V_lower (Kd.V_mono (ok' := fun k_ => True) ho0 (fun k_ hk_ => trivial)) (below_size (by repeat (first | (with_reducible first | exact HB.out | apply below_alloc | apply pw_below_drewN | apply below_drew1) | exact HB.out)))); have n1_ := Aside0.mk (below_step (by repeat (first | (with_reducible first | exact HB.out | apply below_alloc | apply pw_below_drewN | apply below_drew1) | exact HB.out)) hb); clear HB; have HO217 := n0_; have HB := n1_; clear n0_ n1_; (try clear hb); (try clear hb2); (try clear hk); (try clear hi); (try clear ho0)) | ((with_reducible refine gate_dst (N := 9) rfl ?_); refine box_event ?hg (N := 9) ?hd (cs := #[.int .u64 0, .int .u64 0, .slice none 0 0]) (t := 46) ?hr ?_; (case hd => rfl); (case hg => rfl); (case hr => first | (go_simp; done) | (go_simp; rfl)); intro gb219 hg w31 hbox hb; have n0_ := Aside0.mk (Kd.V_below (Kd.V_elderB (by (with_reducible repeat (first | apply Kd.V_alloc | apply Kd.V_drewN | apply Kd.V_drew)); exact HO217.out) gb219 (Nat.le_of_eq hg.symm)) hb); have n1_ := Aside0.mk (below_step (by repeat (first | (with_reducible first | exact HB.out | apply below_alloc | apply pw_below_drewN | apply below_drew1) | exact HB.out)) hb); have n2_ := Aside0.mk (hbox); have n3_ := Aside0.mk ((by rw [hg]; exact (below_size (by repeat (first | (with_reducible first | exact HB.out | apply below_alloc | apply pw_below_drewN | apply below_drew1) | exact HB.out))) : w.heap.size ≤ gb219)); have n4_ := Aside0.mk ((by rw [hg]; exact (below_size (by repeat (first | (with_reducible first | exact HB.out | apply below_alloc | apply pw_below_drewN | apply below_drew1) | exact HB.out))) : w.heap.size ≤ gb219)); clear HO217; clear HB; have HO217 := n0_; have HB := n1_; have BK219 := n2_; have GW219 := n3_; have GE219 := n4_; clear n0_ n1_ n2_ n3_ n4_; clear hb hbox hg; have hcz32_0 : w31.cell? ⟨gb219, 0, none⟩ = some (.int .u64 0) := (blk_cell BK219.out 0).trans rfl; have hcz32_1 : w31.cell? ⟨gb219, 1, none⟩ = some (.int .u64 0) := (blk_cell BK219.out 1).trans rfl; have hcz32_2 : w31.cell? ⟨gb219, 2, none⟩ = some (.slice none 0 0) := (blk_cell BK219.out 2).trans rfl; have hfz32_0 := blk_frozen BK219.out 0; have hfz32_1 := blk_frozen BK219.out 1; have hfz32_2 := blk_frozen BK219.out 2; obtain ⟨Ao33, co33, eo33⟩ := Kd.V_slice HO217.out; subst eo33))
      go_ret
      exact ⟨by first | rfl | (simp [errW_none, errW_some] <;> rfl) | (simp [*, errW_none, errW_some] <;> rfl), by repeat (first | (with_reducible first | exact HB.out | apply below_alloc | apply pw_below_drewN | apply below_drew1 | refine below_set ?_ GE219.out) | exact HB.out)⟩
  · replace c6 := Bool.eq_false_iff.mpr c6
    subst c6
    have H1 : (some false) = some true := by rw [if_neg (show ¬ (false = true) by decide)] at H <;> exact H
    clear H
    have H := H1
    clear H1
    exact absurd H (by simp)

/-! ### epicyclelaw04_ProofParts: function 12 -/
def epicyclelaw04_ProofParts.j0 : Nat → List (S46) → Int → Bool → Option (Bool)
  | 0, _, _, _ => none
  | k + 1, x0, x1, x24 => if x24 = true then (some true) else ((epicyclelaw04_rows.f k x0).bind fun t224 => ((proof_Check.f k t224).bind fun bt227 => (if 0 ≤ x1 then (if x1 ≤ (t224.length : Int) then ((proof_Check.f k (t224.take (x1 : Int).toNat)).bind fun bt233 => (if bt233.2 = 0 then (if bt227.2 = 0 then (if bt227.1 = 0 then (some true) else (if bt227.2 = 3 then (if bt227.1 ≥ x1 then (some (decide (bt227.1 < (x0.length : Int)))) else (some false)) else (some false))) else (if bt227.2 = 3 then (if bt227.1 ≥ x1 then (some (decide (bt227.1 < (x0.length : Int)))) else (some false)) else (some false))) else (if bt227.2 = bt233.2 then (some (bt227.1 == bt233.1)) else (some false)))) else (none)) else (none))))
def epicyclelaw04_ProofParts.f (k : Nat) (l0 : List (S46)) (a1 : Int) : Option (Bool) := (epicyclelaw04_alive.f k).bind fun t223 => (if t223 = true then (if (l0.length : Int) > 32 then (epicyclelaw04_ProofParts.j0 k l0 a1 true) else (if a1 < 0 then (epicyclelaw04_ProofParts.j0 k l0 a1 true) else (epicyclelaw04_ProofParts.j0 k l0 a1 (decide (a1 > (l0.length : Int)))))) else (some false))
theorem epicyclelaw04_ProofParts.mono_l : ∀ k, (∀ y0 y1 y2, LeO (epicyclelaw04_ProofParts.j0 k y0 y1 y2) (epicyclelaw04_ProofParts.j0 (k + 1) y0 y1 y2))
  | 0 => fun _ _ _ r h => by simp [epicyclelaw04_ProofParts.j0] at h
  | k + 1 => by
    have ih0 := epicyclelaw04_ProofParts.mono_l k
    · intro y0 y1 y2
      unfold epicyclelaw04_ProofParts.j0
      repeat' first
      | (with_reducible exact ih0 _ _ _)
      | (with_reducible exact epicyclelaw04_alive.mono _)
      | (with_reducible exact epicyclelaw04_rows.mono _ _)
      | (with_reducible exact proof_Check.mono _ _)
      | (with_reducible exact LeO.refl _)
      | (with_reducible exact LeO.none _)
      | (with_reducible refine LeO.ite ?_ ?_)
      | (with_reducible refine LeO.bind ?_ (fun _ => ?_))
      | exact ih0 _ _ _
      | exact epicyclelaw04_alive.mono _
      | exact epicyclelaw04_rows.mono _ _
      | exact proof_Check.mono _ _
      | exact LeO.none _
      | refine LeO.ite ?_ ?_
      | refine LeO.bind ?_ (fun _ => ?_)
theorem epicyclelaw04_ProofParts.mono : ∀ a0 a1 k, LeO (epicyclelaw04_ProofParts.f k a0 a1) (epicyclelaw04_ProofParts.f (k + 1) a0 a1) := by
  intro a0 a1 k
  have ih0 := epicyclelaw04_ProofParts.mono_l k
  unfold epicyclelaw04_ProofParts.f
  repeat' first
      | (with_reducible exact ih0 _ _ _)
      | (with_reducible exact epicyclelaw04_alive.mono _)
      | (with_reducible exact epicyclelaw04_rows.mono _ _)
      | (with_reducible exact proof_Check.mono _ _)
      | (with_reducible exact LeO.refl _)
      | (with_reducible exact LeO.none _)
      | (with_reducible refine LeO.ite ?_ ?_)
      | (with_reducible refine LeO.bind ?_ (fun _ => ?_))
      | exact ih0 _ _ _
      | exact epicyclelaw04_alive.mono _
      | exact epicyclelaw04_rows.mono _ _
      | exact proof_Check.mono _ _
      | exact LeO.none _
      | refine LeO.ite ?_ ?_
      | refine LeO.bind ?_ (fun _ => ?_)
set_option maxHeartbeats 8000000 in
set_option maxRecDepth 100000 in
theorem epicyclelaw04_ProofParts.calls (k : Nat) (A0 : Option Addr) (c0 : Nat) (l0 : List (S46)) (a1 : Int) (w : World) (hr0 : Kd.C k46 w A0 l0.length l0) (hc0 : l0.length ≤ c0) (h : epicyclelaw04_ProofParts.f k l0 a1 = some true) :
    Calls Try.prog 12 #[.slice A0 l0.length c0, .int .i64 a1] w fun e w' => e = .returned (.bool true) ∧ Below w.heap.size w w' := by
  have HR0 := Aside0.mk hr0
  have HC0 := Aside0.mk hc0
  clear hr0 hc0
  have HB := Aside0.mk (Below.refl w.heap.size w)
  have H : ((epicyclelaw04_alive.f k).bind fun t223 => (if t223 = true then (if (l0.length : Int) > 32 then (epicyclelaw04_ProofParts.j0 k l0 a1 true) else (if a1 < 0 then (epicyclelaw04_ProofParts.j0 k l0 a1 true) else (epicyclelaw04_ProofParts.j0 k l0 a1 (decide (a1 > (l0.length : Int)))))) else (some false))) = some true := h
  clear h
  replace H := Option.bind_eq_some_iff.mp H
  obtain ⟨t223, A30, H⟩ := H
  replace H : (if t223 = true then (if (l0.length : Int) > 32 then (epicyclelaw04_ProofParts.j0 k l0 a1 true) else (if a1 < 0 then (epicyclelaw04_ProofParts.j0 k l0 a1 true) else (epicyclelaw04_ProofParts.j0 k l0 a1 (decide (a1 > (l0.length : Int)))))) else (some false)) = some true := H
  have A3 := Aside0.mk A30
  clear A30
  by_cases c4 : t223 = true
  · subst c4
    have H1 : (if (l0.length : Int) > 32 then (epicyclelaw04_ProofParts.j0 k l0 a1 true) else (if a1 < 0 then (epicyclelaw04_ProofParts.j0 k l0 a1 true) else (epicyclelaw04_ProofParts.j0 k l0 a1 (decide (a1 > (l0.length : Int)))))) = some true := by rw [if_pos rfl] at H <;> exact H
    clear H
    have H := H1
    clear H1
    have HC5 := Aside0.mk H
    clear H
    go_enter Try.func12, Try.ntmps12
    go_upto_region 3 with (first | ((with_reducible refine gate_callee (f := 32) rfl ?_); refine goesL_ (some 10) rfl rfl Try.func32 (by kernel_rfl) rfl #[] rfl (by (try simp only [List.map_toArray, List.map_cons, List.map_nil]); first | done | rfl | (simp only [List.length_drop, List.length_take]; rfl)) ?_; (with_reducible refine (epicyclelaw04_alive.calls k  true _ A3.out).mono ?_); rintro e w6 ⟨rfl, hb⟩; refine ⟨_, rfl, ?_⟩; have n0_ := Aside0.mk (below_step (by repeat (first | (with_reducible first | exact HB.out | apply below_alloc | apply pw_below_drewN | apply below_drew1) | exact HB.out)) hb); clear HB; have HB := n0_; clear n0_; (try clear hb); (try clear hb2); (try clear hk); (try clear hi)))
    (try simp only [Act.put, List.setIfInBounds_toArray, List.set_cons_zero, List.set_cons_succ])
    go_cut [24] (fun v24 wc => ∃ (kq : Nat) (x24_4 : Bool), v24 = .bool x24_4 ∧ Aside0 (epicyclelaw04_ProofParts.j0 kq l0 a1 x24_4 = some true) ∧ Aside0 (kq ≤ k) ∧ Aside0 (Below w.heap.size w wc))
    case first =>
      have H := HC5.out
      clear HC5
      by_cases c7 : (l0.length : Int) > 32
      · rw [if_pos c7] at H
        have c7b0 : decide (32 < (l0.length : Int)) = true := decide_eq_true c7
        have c7b1 : decide (32 < l0.length) = true := decide_eq_true (by omega)
        clear c7
        (first | rw [c7b0] | (simp only [i64_w, i32_w]; rw [c7b0]) | skip)
        have H' := Aside0.mk H
        clear H
        go_wp2
        go_meet
        case rel => exact ⟨_, (true), (by first | rfl | (simp; done) | (simp [*]; done)), H', ⟨by first | omega | exact Nat.le_refl _⟩, ⟨by repeat (first | (with_reducible first | exact HB.out | apply below_alloc | apply pw_below_drewN | apply below_drew1) | exact HB.out)⟩⟩
      · rw [if_neg c7] at H
        have c7b0 : decide (32 < (l0.length : Int)) = false := decide_eq_false c7
        have c7b1 : decide (32 < l0.length) = false := decide_eq_false (by omega)
        clear c7
        (first | rw [c7b0] | (simp only [i64_w, i32_w]; rw [c7b0]) | skip)
        by_cases c8 : a1 < 0
        · rw [if_pos c8] at H
          have c8b0 : decide (a1 < 0) = true := decide_eq_true c8
          clear c8
          have H' := Aside0.mk H
          clear H
          go_wp2
          go_meet
          case rel => exact ⟨_, (true), (by first | rfl | (simp; done) | (simp [*]; done)), H', ⟨by first | omega | exact Nat.le_refl _⟩, ⟨by repeat (first | (with_reducible first | exact HB.out | apply below_alloc | apply pw_below_drewN | apply below_drew1) | exact HB.out)⟩⟩
        · rw [if_neg c8] at H
          have c8b0 : decide (a1 < 0) = false := decide_eq_false c8
          clear c8
          have H' := Aside0.mk H
          clear H
          go_wp2
          go_meet
          case rel => exact ⟨_, (decide (a1 > (l0.length : Int))), (by first | rfl | (simp; done) | (simp [*]; done)), H', ⟨by first | omega | exact Nat.le_refl _⟩, ⟨by repeat (first | (with_reducible first | exact HB.out | apply below_alloc | apply pw_below_drewN | apply below_drew1) | exact HB.out)⟩⟩
    case rest =>
      clear HC5
      try clear c1
      try clear p2
      try clear c3
      try clear c4
      try clear c7
      try clear c7b0
      try clear c7b1
      try clear c8
      try clear c8b0
      obtain ⟨kq, x24_4, rfl, HA, HJ4, HB⟩ := hcut
      cases kq with
      | zero => exact absurd HA.out (by simp [epicyclelaw04_ProofParts.j0])
      | succ kj4 =>
        have H := HA.out
        clear HA
        simp only [epicyclelaw04_ProofParts.j0] at H
        by_cases c9 : x24_4 = true
        · subst c9
          have H1 : (some true) = some true := by rw [if_pos rfl] at H <;> exact H
          clear H
          have H := H1
          clear H1
          clear H
          go_wp2
          go_ret
          exact ⟨by first | rfl | (simp [errW_none, errW_some] <;> rfl) | (simp [*, errW_none, errW_some] <;> rfl), by repeat (first | (with_reducible first | exact HB.out | apply below_alloc | apply pw_below_drewN | apply below_drew1) | exact HB.out)⟩
        · replace c9 := Bool.eq_false_iff.mpr c9
          subst c9
          have H1 : ((epicyclelaw04_rows.f kj4 l0).bind fun t224 => ((proof_Check.f kj4 t224).bind fun bt227 => (if 0 ≤ a1 then (if a1 ≤ (t224.length : Int) then ((proof_Check.f kj4 (t224.take (a1 : Int).toNat)).bind fun bt233 => (if bt233.2 = 0 then (if bt227.2 = 0 then (if bt227.1 = 0 then (some true) else (if bt227.2 = 3 then (if bt227.1 ≥ a1 then (some (decide (bt227.1 < (l0.length : Int)))) else (some false)) else (some false))) else (if bt227.2 = 3 then (if bt227.1 ≥ a1 then (some (decide (bt227.1 < (l0.length : Int)))) else (some false)) else (some false))) else (if bt227.2 = bt233.2 then (some (bt227.1 == bt233.1)) else (some false)))) else (none)) else (none)))) = some true := by rw [if_neg (show ¬ (false = true) by decide)] at H <;> exact H
          clear H
          have H := H1
          clear H1
          replace H := Option.bind_eq_some_iff.mp H
          obtain ⟨t224, A100, H⟩ := H
          replace H : ((proof_Check.f kj4 t224).bind fun bt227 => (if 0 ≤ a1 then (if a1 ≤ (t224.length : Int) then ((proof_Check.f kj4 (t224.take (a1 : Int).toNat)).bind fun bt233 => (if bt233.2 = 0 then (if bt227.2 = 0 then (if bt227.1 = 0 then (some true) else (if bt227.2 = 3 then (if bt227.1 ≥ a1 then (some (decide (bt227.1 < (l0.length : Int)))) else (some false)) else (some false))) else (if bt227.2 = 3 then (if bt227.1 ≥ a1 then (some (decide (bt227.1 < (l0.length : Int)))) else (some false)) else (some false))) else (if bt227.2 = bt233.2 then (some (bt227.1 == bt233.1)) else (some false)))) else (none)) else (none))) = some true := H
          have A10 := Aside0.mk A100
          clear A100
          replace H := Option.bind_eq_some_iff.mp H
          obtain ⟨⟨t227, t228⟩, A110, H⟩ := H
          replace H : (if 0 ≤ a1 then (if a1 ≤ (t224.length : Int) then ((proof_Check.f kj4 (t224.take (a1 : Int).toNat)).bind fun bt233 => (if bt233.2 = 0 then (if t228 = 0 then (if t227 = 0 then (some true) else (if t228 = 3 then (if t227 ≥ a1 then (some (decide (t227 < (l0.length : Int)))) else (some false)) else (some false))) else (if t228 = 3 then (if t227 ≥ a1 then (some (decide (t227 < (l0.length : Int)))) else (some false)) else (some false))) else (if t228 = bt233.2 then (some (t227 == bt233.1)) else (some false)))) else (none)) else (none)) = some true := H
          have A11 := Aside0.mk A110
          clear A110
          by_cases c12 : 0 ≤ a1
          · rw [if_pos c12] at H
            have c12b0 := eq_true c12
            have c12b1 : decide (0 ≤ a1) = true := decide_eq_true c12
            clear c12
            by_cases c13 : a1 ≤ (t224.length : Int)
            · rw [if_pos c13] at H
              have c13b0 := eq_true c13
              have c13b1 : decide (a1 ≤ (t224.length : Int)) = true := decide_eq_true c13
              clear c13
              obtain ⟨y229, hy229⟩ : ∃ y_ : List (S54), y_ = (t224.take (a1 : Int).toNat) := ⟨_, rfl⟩
              replace H : ((proof_Check.f kj4 y229).bind fun bt233 => (if bt233.2 = 0 then (if t228 = 0 then (if t227 = 0 then (some true) else (if t228 = 3 then (if t227 ≥ a1 then (some (decide (t227 < (l0.length : Int)))) else (some false)) else (some false))) else (if t228 = 3 then (if t227 ≥ a1 then (some (decide (t227 < (l0.length : Int)))) else (some false)) else (some false))) else (if t228 = bt233.2 then (some (t227 == bt233.1)) else (some false)))) = some true := by first | (rw [hy229]; with_reducible exact H) | (have H2_ := (Option.bind_some _ _).symm.trans H; rw [hy229]; with_reducible exact H2_) | (have H2_ := (Option.bind_some _ _).symm.trans H; with_reducible exact H2_) | with_reducible exact H | (rw [hy229]; exact H) | exact H
              have Ny229 := Aside0.mk hy229
              clear hy229
              replace H := Option.bind_eq_some_iff.mp H
              obtain ⟨⟨t233, t234⟩, A140, H⟩ := H
              replace H : (if t234 = 0 then (if t228 = 0 then (if t227 = 0 then (some true) else (if t228 = 3 then (if t227 ≥ a1 then (some (decide (t227 < (l0.length : Int)))) else (some false)) else (some false))) else (if t228 = 3 then (if t227 ≥ a1 then (some (decide (t227 < (l0.length : Int)))) else (some false)) else (some false))) else (if t228 = t234 then (some (t227 == t233)) else (some false))) = some true := H
              have A14 := Aside0.mk A140
              clear A140
              by_cases c15 : t234 = 0
              · rw [if_pos c15] at H
                have c15b0 : (t234 == 0) = true := beq_iff_eq.mpr c15
                have c15b1 : (t234 != 0) = false := bne_eq_false_iff_eq.mpr c15
                clear c15
                by_cases c16 : t228 = 0
                · rw [if_pos c16] at H
                  have c16b0 : (t228 == 0) = true := beq_iff_eq.mpr c16
                  have c16b1 : (t228 != 0) = false := bne_eq_false_iff_eq.mpr c16
                  clear c16
                  by_cases c17 : t227 = 0
                  · rw [if_pos c17] at H
                    have c17b0 : (t227 == 0) = true := beq_iff_eq.mpr c17
                    have c17b1 : (t227 != 0) = false := bne_eq_false_iff_eq.mpr c17
                    clear c17
                    clear H
                    go_wp2_with (first | ((with_reducible refine gate_callee (f := 35) rfl ?_); refine goesL_ (some 26) rfl rfl Try.func35 (by kernel_rfl) rfl #[.slice A0 l0.length c0] rfl (by (try simp only [List.map_toArray, List.map_cons, List.map_nil]); first | done | rfl | (simp only [List.length_drop, List.length_take]; rfl)) ?_; (with_reducible refine (epicyclelaw04_rows.calls kj4 _ _ l0 t224 _ ?side1 ?side2 A10.out).mono ?_); (case side1 => repeat (first | exact (Kd.C_below HR0.out HB.out) | (with_reducible refine Kd.C_alloc ?_ _) | (with_reducible refine Kd.C_drewN ?_ _) | (with_reducible refine Kd.C_drew ?_))); (case side2 => exact HC0.out); rintro e w18 ⟨v225, rfl, ho0, hb⟩; refine ⟨_, rfl, ?_⟩; have n0_ := Aside0.mk (Kd.S_lower ho0 (below_size (by repeat (first | (with_reducible first | exact HB.out | apply below_alloc | apply pw_below_drewN | apply below_drew1) | exact HB.out)))); have n1_ := Aside0.mk (below_step (by repeat (first | (with_reducible first | exact HB.out | apply below_alloc | apply pw_below_drewN | apply below_drew1) | exact HB.out)) hb); clear HB; have HO226 := n0_; have HB := n1_; clear n0_ n1_; (try clear hb); (try clear hb2); (try clear hk); (try clear hi); (try clear ho0); obtain ⟨Ao19, co19, eo19⟩ := Kd.S_slice HO226.out; subst eo19) | ((with_reducible refine gate_callee (f := 34) rfl ?_); refine goesL_ (some 29) rfl rfl Try.func34 (by kernel_rfl) rfl #[.slice Ao19 t224.length co19] rfl (by (try simp only [List.map_toArray, List.map_cons, List.map_nil]); first | done | rfl | (simp only [List.length_drop, List.length_take]; rfl)) ?_; (with_reducible refine (proof_Check.calls kj4 _ _ t224 t227 t228 _ ?side1 ?side2 A11.out).mono ?_); (case side1 => repeat (first | exact (Kd.S_reads' HO226.out).2.2 | (with_reducible refine Kd.C_alloc ?_ _) | (with_reducible refine Kd.C_drewN ?_ _) | (with_reducible refine Kd.C_drew ?_))); (case side2 => exact (Kd.S_reads' HO226.out).2.1); rintro e w20 ⟨rfl, hb⟩; refine ⟨_, rfl, ?_⟩; have n0_ := Aside0.mk (Kd.S_below (by (with_reducible repeat (first | apply Kd.S_alloc | apply Kd.S_drewN | apply Kd.S_drew)); exact HO226.out) hb); have n1_ := Aside0.mk (below_step (by repeat (first | (with_reducible first | exact HB.out | apply below_alloc | apply pw_below_drewN | apply below_drew1) | exact HB.out)) hb); clear HO226; clear HB; have HO226 := n0_; have HB := n1_; clear n0_ n1_; (try clear hb); (try clear hb2); (try clear hk); (try clear hi); have q21 : (a1 : Int) ≤ ((t224.length : Int) : Int) := of_decide_eq_true (by first | (with_reducible assumption) | assumption); obtain ⟨i021, hi021, _, hsz21, _⟩ := info_parts info54; have hroom21 : t224.length ≤ co19 := (Kd.S_reads' HO226.out).2.1; have hC21 : Kd.C k54 _ Ao19 t224.length t224 := (Kd.S_reads' HO226.out).2.2; have hcut21 := cut_to (P := Try.prog) 40 54 .i64 Try.underlying40 hi021 Ao19 t224.length co19 a1 (of_decide_eq_true (by first | (with_reducible assumption) | assumption)) q21 hroom21; have hr21 := Kd.C_take (m := (a1 : Int).toNat) hC21 (by omega); have hy21 : y229.length = (a1 : Int).toNat := (by rw [Ny229.out, List.length_take]; omega); rw [← Ny229.out] at hr21; rw [← hy21] at hcut21; have HR232 := Aside0.mk hr21; have HC232 := Aside0.mk (show y229.length ≤ co19 from by omega); clear hr21 hC21 hroom21 hi021 hsz21; have KY21 := Aside0.mk hy21; clear hy21; have KL21 := Aside0.mk (show (a1 : Int).toNat ≤ t224.length from by omega); replace q21 := eq_true q21) | ((with_reducible refine gate_callee (f := 34) rfl ?_); refine goesL_ (some 36) rfl rfl Try.func34 (by kernel_rfl) rfl #[.slice Ao19 y229.length co19] rfl (by (try simp only [List.map_toArray, List.map_cons, List.map_nil]); first | done | rfl | (simp only [List.length_drop, List.length_take]; rfl)) ?_; (with_reducible refine (proof_Check.calls kj4 _ _ y229 t233 t234 _ ?side1 ?side2 A14.out).mono ?_); (case side1 => repeat (first | exact (by repeat (first | (with_reducible exact HR232.out) | (with_reducible refine Kd.C_alloc ?_ _) | (with_reducible refine Kd.C_drewN ?_ _) | (with_reducible refine Kd.C_drew ?_) | exact HR232.out)) | (with_reducible refine Kd.C_alloc ?_ _) | (with_reducible refine Kd.C_drewN ?_ _) | (with_reducible refine Kd.C_drew ?_))); (case side2 => exact HC232.out); rintro e w22 ⟨rfl, hb⟩; refine ⟨_, rfl, ?_⟩; have n0_ := Aside0.mk (Kd.S_below (by (with_reducible repeat (first | apply Kd.S_alloc | apply Kd.S_drewN | apply Kd.S_drew)); exact HO226.out) hb); have n1_ := Aside0.mk (Kd.C_below (by repeat (first | (with_reducible exact HR232.out) | (with_reducible refine Kd.C_alloc ?_ _) | (with_reducible refine Kd.C_drewN ?_ _) | (with_reducible refine Kd.C_drew ?_) | exact HR232.out)) hb); have n2_ := Aside0.mk (below_step (by repeat (first | (with_reducible first | exact HB.out | apply below_alloc | apply pw_below_drewN | apply below_drew1) | exact HB.out)) hb); clear HO226; clear HR232; clear HB; have HO226 := n0_; have HR232 := n1_; have HB := n2_; clear n0_ n1_ n2_; (try clear hb); (try clear hb2); (try clear hk); (try clear hi)))
                    go_ret
                    exact ⟨by first | rfl | (simp [errW_none, errW_some] <;> rfl) | (simp [*, errW_none, errW_some] <;> rfl), by repeat (first | (with_reducible first | exact HB.out | apply below_alloc | apply pw_below_drewN | apply below_drew1) | exact HB.out)⟩
                  · rw [if_neg c17] at H
                    have c17b0 : (t227 == 0) = false := beq_eq_false_iff_ne.mpr c17
                    have c17b1 : (t227 != 0) = true := bne_iff_ne.mpr c17
                    by_cases c23 : t228 = 3
                    · rw [if_pos c23] at H
                      have c23b0 : (t228 == 3) = true := beq_iff_eq.mpr c23
                      have c23b1 : (t228 != 3) = false := bne_eq_false_iff_eq.mpr c23
                      clear c23
                      by_cases c24 : t227 ≥ a1
                      · rw [if_pos c24] at H
                        have c24b0 : decide (a1 ≤ t227) = true := decide_eq_true c24
                        clear c24
                        have hR_ := Option.some.inj H
                        go_wp2_with (first | ((with_reducible refine gate_callee (f := 35) rfl ?_); refine goesL_ (some 26) rfl rfl Try.func35 (by kernel_rfl) rfl #[.slice A0 l0.length c0] rfl (by (try simp only [List.map_toArray, List.map_cons, List.map_nil]); first | done | rfl | (simp only [List.length_drop, List.length_take]; rfl)) ?_; (with_reducible refine (epicyclelaw04_rows.calls kj4 _ _ l0 t224 _ ?side1 ?side2 A10.out).mono ?_); (case side1 => repeat (first | exact (Kd.C_below HR0.out HB.out) | (with_reducible refine Kd.C_alloc ?_ _) | (with_reducible refine Kd.C_drewN ?_ _) | (with_reducible refine Kd.C_drew ?_))); (case side2 => exact HC0.out); rintro e w25 ⟨v225, rfl, ho0, hb⟩; refine ⟨_, rfl, ?_⟩; have n0_ := Aside0.mk (Kd.S_lower ho0 (below_size (by repeat (first | (with_reducible first | exact HB.out | apply below_alloc | apply pw_below_drewN | apply below_drew1) | exact HB.out)))); have n1_ := Aside0.mk (below_step (by repeat (first | (with_reducible first | exact HB.out | apply below_alloc | apply pw_below_drewN | apply below_drew1) | exact HB.out)) hb); clear HB; have HO226 := n0_; have HB := n1_; clear n0_ n1_; (try clear hb); (try clear hb2); (try clear hk); (try clear hi); (try clear ho0); obtain ⟨Ao26, co26, eo26⟩ := Kd.S_slice HO226.out; subst eo26) | ((with_reducible refine gate_callee (f := 34) rfl ?_); refine goesL_ (some 29) rfl rfl Try.func34 (by kernel_rfl) rfl #[.slice Ao26 t224.length co26] rfl (by (try simp only [List.map_toArray, List.map_cons, List.map_nil]); first | done | rfl | (simp only [List.length_drop, List.length_take]; rfl)) ?_; (with_reducible refine (proof_Check.calls kj4 _ _ t224 t227 t228 _ ?side1 ?side2 A11.out).mono ?_); (case side1 => repeat (first | exact (Kd.S_reads' HO226.out).2.2 | (with_reducible refine Kd.C_alloc ?_ _) | (with_reducible refine Kd.C_drewN ?_ _) | (with_reducible refine Kd.C_drew ?_))); (case side2 => exact (Kd.S_reads' HO226.out).2.1); rintro e w27 ⟨rfl, hb⟩; refine ⟨_, rfl, ?_⟩; have n0_ := Aside0.mk (Kd.S_below (by (with_reducible repeat (first | apply Kd.S_alloc | apply Kd.S_drewN | apply Kd.S_drew)); exact HO226.out) hb); have n1_ := Aside0.mk (below_step (by repeat (first | (with_reducible first | exact HB.out | apply below_alloc | apply pw_below_drewN | apply below_drew1) | exact HB.out)) hb); clear HO226; clear HB; have HO226 := n0_; have HB := n1_; clear n0_ n1_; (try clear hb); (try clear hb2); (try clear hk); (try clear hi); have q28 : (a1 : Int) ≤ ((t224.length : Int) : Int) := of_decide_eq_true (by first | (with_reducible assumption) | assumption); obtain ⟨i028, hi028, _, hsz28, _⟩ := info_parts info54; have hroom28 : t224.length ≤ co26 := (Kd.S_reads' HO226.out).2.1; have hC28 : Kd.C k54 _ Ao26 t224.length t224 := (Kd.S_reads' HO226.out).2.2; have hcut28 := cut_to (P := Try.prog) 40 54 .i64 Try.underlying40 hi028 Ao26 t224.length co26 a1 (of_decide_eq_true (by first | (with_reducible assumption) | assumption)) q28 hroom28; have hr28 := Kd.C_take (m := (a1 : Int).toNat) hC28 (by omega); have hy28 : y229.length = (a1 : Int).toNat := (by rw [Ny229.out, List.length_take]; omega); rw [← Ny229.out] at hr28; rw [← hy28] at hcut28; have HR232 := Aside0.mk hr28; have HC232 := Aside0.mk (show y229.length ≤ co26 from by omega); clear hr28 hC28 hroom28 hi028 hsz28; have KY28 := Aside0.mk hy28; clear hy28; have KL28 := Aside0.mk (show (a1 : Int).toNat ≤ t224.length from by omega); replace q28 := eq_true q28) | ((with_reducible refine gate_callee (f := 34) rfl ?_); refine goesL_ (some 36) rfl rfl Try.func34 (by kernel_rfl) rfl #[.slice Ao26 y229.length co26] rfl (by (try simp only [List.map_toArray, List.map_cons, List.map_nil]); first | done | rfl | (simp only [List.length_drop, List.length_take]; rfl)) ?_; (with_reducible refine (proof_Check.calls kj4 _ _ y229 t233 t234 _ ?side1 ?side2 A14.out).mono ?_); (case side1 => repeat (first | exact (by repeat (first | (with_reducible exact HR232.out) | (with_reducible refine Kd.C_alloc ?_ _) | (with_reducible refine Kd.C_drewN ?_ _) | (with_reducible refine Kd.C_drew ?_) | exact HR232.out)) | (with_reducible refine Kd.C_alloc ?_ _) | (with_reducible refine Kd.C_drewN ?_ _) | (with_reducible refine Kd.C_drew ?_))); (case side2 => exact HC232.out); rintro e w29 ⟨rfl, hb⟩; refine ⟨_, rfl, ?_⟩; have n0_ := Aside0.mk (Kd.S_below (by (with_reducible repeat (first | apply Kd.S_alloc | apply Kd.S_drewN | apply Kd.S_drew)); exact HO226.out) hb); have n1_ := Aside0.mk (Kd.C_below (by repeat (first | (with_reducible exact HR232.out) | (with_reducible refine Kd.C_alloc ?_ _) | (with_reducible refine Kd.C_drewN ?_ _) | (with_reducible refine Kd.C_drew ?_) | exact HR232.out)) hb); have n2_ := Aside0.mk (below_step (by repeat (first | (with_reducible first | exact HB.out | apply below_alloc | apply pw_below_drewN | apply below_drew1) | exact HB.out)) hb); clear HO226; clear HR232; clear HB; have HO226 := n0_; have HR232 := n1_; have HB := n2_; clear n0_ n1_ n2_; (try clear hb); (try clear hb2); (try clear hk); (try clear hi)))
                        go_ret
                        exact ⟨by first | rfl | (simp [errW_none, errW_some] <;> rfl) | (simp [*, errW_none, errW_some] <;> rfl), by repeat (first | (with_reducible first | exact HB.out | apply below_alloc | apply pw_below_drewN | apply below_drew1) | exact HB.out)⟩
                      · rw [if_neg c24] at H
                        have c24b0 : decide (a1 ≤ t227) = false := decide_eq_false c24
                        clear c24
                        exact absurd H (by simp)
                    · rw [if_neg c23] at H
                      have c23b0 : (t228 == 3) = false := beq_eq_false_iff_ne.mpr c23
                      have c23b1 : (t228 != 3) = true := bne_iff_ne.mpr c23
                      exact absurd H (by simp)
                · rw [if_neg c16] at H
                  have c16b0 : (t228 == 0) = false := beq_eq_false_iff_ne.mpr c16
                  have c16b1 : (t228 != 0) = true := bne_iff_ne.mpr c16
                  by_cases c30 : t228 = 3
                  · rw [if_pos c30] at H
                    have c30b0 : (t228 == 3) = true := beq_iff_eq.mpr c30
                    have c30b1 : (t228 != 3) = false := bne_eq_false_iff_eq.mpr c30
                    clear c30
                    by_cases c31 : t227 ≥ a1
                    · rw [if_pos c31] at H
                      have c31b0 : decide (a1 ≤ t227) = true := decide_eq_true c31
                      clear c31
                      have hR_ := Option.some.inj H
                      go_wp2_with (first | ((with_reducible refine gate_callee (f := 35) rfl ?_); refine goesL_ (some 26) rfl rfl Try.func35 (by kernel_rfl) rfl #[.slice A0 l0.length c0] rfl (by (try simp only [List.map_toArray, List.map_cons, List.map_nil]); first | done | rfl | (simp only [List.length_drop, List.length_take]; rfl)) ?_; (with_reducible refine (epicyclelaw04_rows.calls kj4 _ _ l0 t224 _ ?side1 ?side2 A10.out).mono ?_); (case side1 => repeat (first | exact (Kd.C_below HR0.out HB.out) | (with_reducible refine Kd.C_alloc ?_ _) | (with_reducible refine Kd.C_drewN ?_ _) | (with_reducible refine Kd.C_drew ?_))); (case side2 => exact HC0.out); rintro e w32 ⟨v225, rfl, ho0, hb⟩; refine ⟨_, rfl, ?_⟩; have n0_ := Aside0.mk (Kd.S_lower ho0 (below_size (by repeat (first | (with_reducible first | exact HB.out | apply below_alloc | apply pw_below_drewN | apply below_drew1) | exact HB.out)))); have n1_ := Aside0.mk (below_step (by repeat (first | (with_reducible first | exact HB.out | apply below_alloc | apply pw_below_drewN | apply below_drew1) | exact HB.out)) hb); clear HB; have HO226 := n0_; have HB := n1_; clear n0_ n1_; (try clear hb); (try clear hb2); (try clear hk); (try clear hi); (try clear ho0); obtain ⟨Ao33, co33, eo33⟩ := Kd.S_slice HO226.out; subst eo33) | ((with_reducible refine gate_callee (f := 34) rfl ?_); refine goesL_ (some 29) rfl rfl Try.func34 (by kernel_rfl) rfl #[.slice Ao33 t224.length co33] rfl (by (try simp only [List.map_toArray, List.map_cons, List.map_nil]); first | done | rfl | (simp only [List.length_drop, List.length_take]; rfl)) ?_; (with_reducible refine (proof_Check.calls kj4 _ _ t224 t227 t228 _ ?side1 ?side2 A11.out).mono ?_); (case side1 => repeat (first | exact (Kd.S_reads' HO226.out).2.2 | (with_reducible refine Kd.C_alloc ?_ _) | (with_reducible refine Kd.C_drewN ?_ _) | (with_reducible refine Kd.C_drew ?_))); (case side2 => exact (Kd.S_reads' HO226.out).2.1); rintro e w34 ⟨rfl, hb⟩; refine ⟨_, rfl, ?_⟩; have n0_ := Aside0.mk (Kd.S_below (by (with_reducible repeat (first | apply Kd.S_alloc | apply Kd.S_drewN | apply Kd.S_drew)); exact HO226.out) hb); have n1_ := Aside0.mk (below_step (by repeat (first | (with_reducible first | exact HB.out | apply below_alloc | apply pw_below_drewN | apply below_drew1) | exact HB.out)) hb); clear HO226; clear HB; have HO226 := n0_; have HB := n1_; clear n0_ n1_; (try clear hb); (try clear hb2); (try clear hk); (try clear hi); have q35 : (a1 : Int) ≤ ((t224.length : Int) : Int) := of_decide_eq_true (by first | (with_reducible assumption) | assumption); obtain ⟨i035, hi035, _, hsz35, _⟩ := info_parts info54; have hroom35 : t224.length ≤ co33 := (Kd.S_reads' HO226.out).2.1; have hC35 : Kd.C k54 _ Ao33 t224.length t224 := (Kd.S_reads' HO226.out).2.2; have hcut35 := cut_to (P := Try.prog) 40 54 .i64 Try.underlying40 hi035 Ao33 t224.length co33 a1 (of_decide_eq_true (by first | (with_reducible assumption) | assumption)) q35 hroom35; have hr35 := Kd.C_take (m := (a1 : Int).toNat) hC35 (by omega); have hy35 : y229.length = (a1 : Int).toNat := (by rw [Ny229.out, List.length_take]; omega); rw [← Ny229.out] at hr35; rw [← hy35] at hcut35; have HR232 := Aside0.mk hr35; have HC232 := Aside0.mk (show y229.length ≤ co33 from by omega); clear hr35 hC35 hroom35 hi035 hsz35; have KY35 := Aside0.mk hy35; clear hy35; have KL35 := Aside0.mk (show (a1 : Int).toNat ≤ t224.length from by omega); replace q35 := eq_true q35) | ((with_reducible refine gate_callee (f := 34) rfl ?_); refine goesL_ (some 36) rfl rfl Try.func34 (by kernel_rfl) rfl #[.slice Ao33 y229.length co33] rfl (by (try simp only [List.map_toArray, List.map_cons, List.map_nil]); first | done | rfl | (simp only [List.length_drop, List.length_take]; rfl)) ?_; (with_reducible refine (proof_Check.calls kj4 _ _ y229 t233 t234 _ ?side1 ?side2 A14.out).mono ?_); (case side1 => repeat (first | exact (by repeat (first | (with_reducible exact HR232.out) | (with_reducible refine Kd.C_alloc ?_ _) | (with_reducible refine Kd.C_drewN ?_ _) | (with_reducible refine Kd.C_drew ?_) | exact HR232.out)) | (with_reducible refine Kd.C_alloc ?_ _) | (with_reducible refine Kd.C_drewN ?_ _) | (with_reducible refine Kd.C_drew ?_))); (case side2 => exact HC232.out); rintro e w36 ⟨rfl, hb⟩; refine ⟨_, rfl, ?_⟩; have n0_ := Aside0.mk (Kd.S_below (by (with_reducible repeat (first | apply Kd.S_alloc | apply Kd.S_drewN | apply Kd.S_drew)); exact HO226.out) hb); have n1_ := Aside0.mk (Kd.C_below (by repeat (first | (with_reducible exact HR232.out) | (with_reducible refine Kd.C_alloc ?_ _) | (with_reducible refine Kd.C_drewN ?_ _) | (with_reducible refine Kd.C_drew ?_) | exact HR232.out)) hb); have n2_ := Aside0.mk (below_step (by repeat (first | (with_reducible first | exact HB.out | apply below_alloc | apply pw_below_drewN | apply below_drew1) | exact HB.out)) hb); clear HO226; clear HR232; clear HB; have HO226 := n0_; have HR232 := n1_; have HB := n2_; clear n0_ n1_ n2_; (try clear hb); (try clear hb2); (try clear hk); (try clear hi)))
                      go_ret
                      exact ⟨by first | rfl | (simp [errW_none, errW_some] <;> rfl) | (simp [*, errW_none, errW_some] <;> rfl), by repeat (first | (with_reducible first | exact HB.out | apply below_alloc | apply pw_below_drewN | apply below_drew1) | exact HB.out)⟩
                    · rw [if_neg c31] at H
                      have c31b0 : decide (a1 ≤ t227) = false := decide_eq_false c31
                      clear c31
                      exact absurd H (by simp)
                  · rw [if_neg c30] at H
                    have c30b0 : (t228 == 3) = false := beq_eq_false_iff_ne.mpr c30
                    have c30b1 : (t228 != 3) = true := bne_iff_ne.mpr c30
                    exact absurd H (by simp)
              · rw [if_neg c15] at H
                have c15b0 : (t234 == 0) = false := beq_eq_false_iff_ne.mpr c15
                have c15b1 : (t234 != 0) = true := bne_iff_ne.mpr c15
                by_cases c37 : t228 = t234
                · rw [if_pos c37] at H
                  have c37b0 : (t228 == t234) = true := beq_iff_eq.mpr c37
                  have c37b1 : (t228 != t234) = false := bne_eq_false_iff_eq.mpr c37
                  clear c37
                  have hR_ := Option.some.inj H
                  go_wp2_with (first | ((with_reducible refine gate_callee (f := 35) rfl ?_); refine goesL_ (some 26) rfl rfl Try.func35 (by kernel_rfl) rfl #[.slice A0 l0.length c0] rfl (by (try simp only [List.map_toArray, List.map_cons, List.map_nil]); first | done | rfl | (simp only [List.length_drop, List.length_take]; rfl)) ?_; (with_reducible refine (epicyclelaw04_rows.calls kj4 _ _ l0 t224 _ ?side1 ?side2 A10.out).mono ?_); (case side1 => repeat (first | exact (Kd.C_below HR0.out HB.out) | (with_reducible refine Kd.C_alloc ?_ _) | (with_reducible refine Kd.C_drewN ?_ _) | (with_reducible refine Kd.C_drew ?_))); (case side2 => exact HC0.out); rintro e w38 ⟨v225, rfl, ho0, hb⟩; refine ⟨_, rfl, ?_⟩; have n0_ := Aside0.mk (Kd.S_lower ho0 (below_size (by repeat (first | (with_reducible first | exact HB.out | apply below_alloc | apply pw_below_drewN | apply below_drew1) | exact HB.out)))); have n1_ := Aside0.mk (below_step (by repeat (first | (with_reducible first | exact HB.out | apply below_alloc | apply pw_below_drewN | apply below_drew1) | exact HB.out)) hb); clear HB; have HO226 := n0_; have HB := n1_; clear n0_ n1_; (try clear hb); (try clear hb2); (try clear hk); (try clear hi); (try clear ho0); obtain ⟨Ao39, co39, eo39⟩ := Kd.S_slice HO226.out; subst eo39) | ((with_reducible refine gate_callee (f := 34) rfl ?_); refine goesL_ (some 29) rfl rfl Try.func34 (by kernel_rfl) rfl #[.slice Ao39 t224.length co39] rfl (by (try simp only [List.map_toArray, List.map_cons, List.map_nil]); first | done | rfl | (simp only [List.length_drop, List.length_take]; rfl)) ?_; (with_reducible refine (proof_Check.calls kj4 _ _ t224 t227 t228 _ ?side1 ?side2 A11.out).mono ?_); (case side1 => repeat (first | exact (Kd.S_reads' HO226.out).2.2 | (with_reducible refine Kd.C_alloc ?_ _) | (with_reducible refine Kd.C_drewN ?_ _) | (with_reducible refine Kd.C_drew ?_))); (case side2 => exact (Kd.S_reads' HO226.out).2.1); rintro e w40 ⟨rfl, hb⟩; refine ⟨_, rfl, ?_⟩; have n0_ := Aside0.mk (Kd.S_below (by (with_reducible repeat (first | apply Kd.S_alloc | apply Kd.S_drewN | apply Kd.S_drew)); exact HO226.out) hb); have n1_ := Aside0.mk (below_step (by repeat (first | (with_reducible first | exact HB.out | apply below_alloc | apply pw_below_drewN | apply below_drew1) | exact HB.out)) hb); clear HO226; clear HB; have HO226 := n0_; have HB := n1_; clear n0_ n1_; (try clear hb); (try clear hb2); (try clear hk); (try clear hi); have q41 : (a1 : Int) ≤ ((t224.length : Int) : Int) := of_decide_eq_true (by first | (with_reducible assumption) | assumption); obtain ⟨i041, hi041, _, hsz41, _⟩ := info_parts info54; have hroom41 : t224.length ≤ co39 := (Kd.S_reads' HO226.out).2.1; have hC41 : Kd.C k54 _ Ao39 t224.length t224 := (Kd.S_reads' HO226.out).2.2; have hcut41 := cut_to (P := Try.prog) 40 54 .i64 Try.underlying40 hi041 Ao39 t224.length co39 a1 (of_decide_eq_true (by first | (with_reducible assumption) | assumption)) q41 hroom41; have hr41 := Kd.C_take (m := (a1 : Int).toNat) hC41 (by omega); have hy41 : y229.length = (a1 : Int).toNat := (by rw [Ny229.out, List.length_take]; omega); rw [← Ny229.out] at hr41; rw [← hy41] at hcut41; have HR232 := Aside0.mk hr41; have HC232 := Aside0.mk (show y229.length ≤ co39 from by omega); clear hr41 hC41 hroom41 hi041 hsz41; have KY41 := Aside0.mk hy41; clear hy41; have KL41 := Aside0.mk (show (a1 : Int).toNat ≤ t224.length from by omega); replace q41 := eq_true q41) | ((with_reducible refine gate_callee (f := 34) rfl ?_); refine goesL_ (some 36) rfl rfl Try.func34 (by kernel_rfl) rfl #[.slice Ao39 y229.length co39] rfl (by (try simp only [List.map_toArray, List.map_cons, List.map_nil]); first | done | rfl | (simp only [List.length_drop, List.length_take]; rfl)) ?_; (with_reducible refine (proof_Check.calls kj4 _ _ y229 t233 t234 _ ?side1 ?side2 A14.out).mono ?_); (case side1 => repeat (first | exact (by repeat (first | (with_reducible exact HR232.out) | (with_reducible refine Kd.C_alloc ?_ _) | (with_reducible refine Kd.C_drewN ?_ _) | (with_reducible refine Kd.C_drew ?_) | exact HR232.out)) | (with_reducible refine Kd.C_alloc ?_ _) | (with_reducible refine Kd.C_drewN ?_ _) | (with_reducible refine Kd.C_drew ?_))); (case side2 => exact HC232.out); rintro e w42 ⟨rfl, hb⟩; refine ⟨_, rfl, ?_⟩; have n0_ := Aside0.mk (Kd.S_below (by (with_reducible repeat (first | apply Kd.S_alloc | apply Kd.S_drewN | apply Kd.S_drew)); exact HO226.out) hb); have n1_ := Aside0.mk (Kd.C_below (by repeat (first | (with_reducible exact HR232.out) | (with_reducible refine Kd.C_alloc ?_ _) | (with_reducible refine Kd.C_drewN ?_ _) | (with_reducible refine Kd.C_drew ?_) | exact HR232.out)) hb); have n2_ := Aside0.mk (below_step (by repeat (first | (with_reducible first | exact HB.out | apply below_alloc | apply pw_below_drewN | apply below_drew1) | exact HB.out)) hb); clear HO226; clear HR232; clear HB; have HO226 := n0_; have HR232 := n1_; have HB := n2_; clear n0_ n1_ n2_; (try clear hb); (try clear hb2); (try clear hk); (try clear hi)))
                  go_ret
                  exact ⟨by first | rfl | (simp [errW_none, errW_some] <;> rfl) | (simp [*, errW_none, errW_some] <;> rfl), by repeat (first | (with_reducible first | exact HB.out | apply below_alloc | apply pw_below_drewN | apply below_drew1) | exact HB.out)⟩
                · rw [if_neg c37] at H
                  have c37b0 : (t228 == t234) = false := beq_eq_false_iff_ne.mpr c37
                  have c37b1 : (t228 != t234) = true := bne_iff_ne.mpr c37
                  exact absurd H (by simp)
            · rw [if_neg c13] at H
              exact absurd H (by simp)
          · rw [if_neg c12] at H
            exact absurd H (by simp)
  · replace c4 := Bool.eq_false_iff.mpr c4
    subst c4
    have H1 : (some false) = some true := by rw [if_neg (show ¬ (false = true) by decide)] at H <;> exact H
    clear H
    have H := H1
    clear H1
    exact absurd H (by simp)

end Go.Proofs.Ytcnnaciilphadaa.XP
