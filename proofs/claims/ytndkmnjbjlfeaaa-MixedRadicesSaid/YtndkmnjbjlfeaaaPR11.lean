/- Parts of this claim's texts, packed by wip/tools/prune.py: what the proof does not reach is left out. -/
import Derived.Test.YtndkmnjbjlfeaaaPR10
section
namespace Go.Proofs.Ytndkmnjbjlfeaaa.XW
open Go.RowKit Go.Proofs.Ytndkmnjbjlfeaaa.Given Go.Proofs.Ytndkmnjbjlfeaaa.Row05 Go.Proofs.Ytndkmnjbjlfeaaa.XS Go.Proofs.Ytndkmnjbjlfeaaa.XT Go.Proofs.Ytndkmnjbjlfeaaa.XR Go.Proofs.Ytndkmnjbjlfeaaa.F06 Go.Proofs.Ytndkmnjbjlfeaaa.XK Go.Proofs.YtndkmnjbjlfeaaaW.PrintWords Go.Proofs.YtndkmnjbjlfeaaaW.PrintLast Go.Proofs.YtndkmnjbjlfeaaaW.PrintMore
attribute [local go_sem] max2_int min2_int max_two min_two max_three min_three max_four min_four   -- for this text's walks alone
set_option linter.unusedVariables false
set_option linter.unusedSimpArgs false
noncomputable def twiddle_Root.j0 : Nat → List (Fld) → Int → Int → Bool → Option (Int × Int)
 | 0, _, _, _, _ => none
 | k + 1, x0, x8, x9, x29 => if x29 = true then ((field_Field_Inv.f x0 x8).bind fun t103 => (some (t103, x9))) else (some (x8, x9))
noncomputable def twiddle_Root.f (k : Nat) (l0 : List (Fld)) (a1 : Int) (a2 : Bool) : Option (Int × Int) := if (l0.length : Int) = 0 then (some (0, 2)) else (if a1 < 1 then (some (0, 1)) else (if a1 > 4096 then (some (0, 13)) else ((field_Field_Root.f l0 a1).bind fun bt101 => (if bt101.2 = 0 then (twiddle_Root.j0 k l0 bt101.1 bt101.2 a2) else (twiddle_Root.j0 k l0 bt101.1 bt101.2 false)))))
theorem twiddle_Root.mono_l : ∀ k, (∀ y0 y1 y2 y3, LeO (twiddle_Root.j0 k y0 y1 y2 y3) (twiddle_Root.j0 (k + 1) y0 y1 y2 y3))
 | 0 => fun _ _ _ _ r h => by simp [twiddle_Root.j0] at h
 | k + 1 => by
  have ih0 := twiddle_Root.mono_l k
  ·intro y0 y1 y2 y3
   unfold twiddle_Root.j0
   repeat' first
   | (with_reducible exact ih0 _ _ _ _)
   | (with_reducible exact LeO.refl _)
   | (with_reducible exact LeO.none _)
   | (with_reducible refine LeO.ite ?_ ?_)
   | (with_reducible refine LeO.bind ?_ (fun _ => ?_))
   | exact ih0 _ _ _ _
   | exact LeO.none _
   | refine LeO.ite ?_ ?_
   | refine LeO.bind ?_ (fun _ => ?_)
theorem twiddle_Root.mono : ∀ a0 a1 a2 k, LeO (twiddle_Root.f k a0 a1 a2) (twiddle_Root.f (k + 1) a0 a1 a2) := by
 intro a0 a1 a2 k
 have ih0 := twiddle_Root.mono_l k
 unfold twiddle_Root.f
 repeat' first
   | (with_reducible exact ih0 _ _ _ _)
   | (with_reducible exact LeO.refl _)
   | (with_reducible exact LeO.none _)
   | (with_reducible refine LeO.ite ?_ ?_)
   | (with_reducible refine LeO.bind ?_ (fun _ => ?_))
   | exact ih0 _ _ _ _
   | exact LeO.none _
   | refine LeO.ite ?_ ?_
   | refine LeO.bind ?_ (fun _ => ?_)
set_option maxHeartbeats 8000000 in
set_option maxRecDepth 100000 in
theorem twiddle_Root.calls (k : Nat) (A0 : Option Addr) (c0 : Nat) (l0 : List (Fld)) (a1 : Int) (a2 : Bool) (r1 : Int) (r2 : Int) (w : World) (hr0 : Kd.C kFld w A0 l0.length l0) (hc0 : l0.length ≤ c0) (h : twiddle_Root.f k l0 a1 a2 = some (r1, r2)) :
  Calls Try.prog 44 #[toPtr (.slice A0 l0.length c0), .int .i64 a1, .bool a2] w fun e w' => e = .returned (.tuple #[.int .u64 r1, .int .i64 r2]) ∧ Drawn0 w w' := by
 have HR0 := Aside0.mk hr0
 have HC0 := Aside0.mk hc0
 clear hr0 hc0
 have H : (if (l0.length : Int) = 0 then (some (0, 2)) else (if a1 < 1 then (some (0, 1)) else (if a1 > 4096 then (some (0, 13)) else ((field_Field_Root.f l0 a1).bind fun bt101 => (if bt101.2 = 0 then (twiddle_Root.j0 k l0 bt101.1 bt101.2 a2) else (twiddle_Root.j0 k l0 bt101.1 bt101.2 false)))))) = some (r1, r2) := h
 clear h
 by_cases c4 : (l0.length : Int) = 0
 ·rw [if_pos c4] at H
  have c4b0 : ((l0.length : Int) == 0) = true := beq_iff_eq.mpr c4
  have c4b1 : ((l0.length : Int) != 0) = false := bne_eq_false_iff_eq.mpr c4
  have hT_HR0 := pf_none A0 c0 (show l0.length = 0 by omega)
  (try rw [hT_HR0])
  clear c4
  simp only [Option.some.injEq, Prod.mk.injEq] at H
  obtain ⟨rfl, rfl⟩ := H
  go_enter Try.func44, Try.ntmps44
  go_wp2
  go_ret2
  exact ⟨by first | rfl | (simp; done) | (simp [*]; done), by repeat (first | exact Drawn0.refl _ | apply Drawn0.step)⟩
 ·rw [if_neg c4] at H
  have c4b0 : ((l0.length : Int) == 0) = false := beq_eq_false_iff_ne.mpr c4
  have c4b1 : ((l0.length : Int) != 0) = true := bne_iff_ne.mpr c4
  have c4b2 : ¬ (l0 = []) := fun h_ => c4 (by rw [h_]; rfl)
  obtain ⟨aT_HR0, hT_HR0⟩ := pf_some A0 c0 (show ¬ (l0.length = 0) by omega)
  (try rw [hT_HR0])
  by_cases c5 : a1 < 1
  ·rw [if_pos c5] at H
   have c5b0 : decide (a1 < 1) = true := decide_eq_true c5
   clear c5
   simp only [Option.some.injEq, Prod.mk.injEq] at H
   obtain ⟨rfl, rfl⟩ := H
   go_enter Try.func44, Try.ntmps44
   go_wp2
   go_ret2
   exact ⟨by first | rfl | (simp; done) | (simp [*]; done), by repeat (first | exact Drawn0.refl _ | apply Drawn0.step)⟩
  ·rw [if_neg c5] at H
   have c5b0 : decide (a1 < 1) = false := decide_eq_false c5
   clear c5
   by_cases c6 : a1 > 4096
   ·rw [if_pos c6] at H
    have c6b0 : decide (4096 < a1) = true := decide_eq_true c6
    clear c6
    simp only [Option.some.injEq, Prod.mk.injEq] at H
    obtain ⟨rfl, rfl⟩ := H
    go_enter Try.func44, Try.ntmps44
    go_wp2
    go_ret2
    exact ⟨by first | rfl | (simp; done) | (simp [*]; done), by repeat (first | exact Drawn0.refl _ | apply Drawn0.step)⟩
   ·rw [if_neg c6] at H
    have c6b0 : decide (4096 < a1) = false := decide_eq_false c6
    clear c6
    replace H := Option.bind_eq_some_iff.mp H
    obtain ⟨⟨t101, t102⟩, A70, H⟩ := H
    replace H : (if t102 = 0 then (twiddle_Root.j0 k l0 t101 t102 a2) else (twiddle_Root.j0 k l0 t101 t102 false)) = some (r1, r2) := H
    have A7 := Aside0.mk A70
    clear A70
    have HC8 := Aside0.mk H
    clear H
    go_enter Try.func44, Try.ntmps44
    go_upto_region 8 with (first | ((with_reducible refine gate_callee (f := 60) rfl ?_); refine goesL_ (some 22) rfl rfl Try.func60 (by kernel_rfl) rfl #[toPtr (.slice A0 l0.length c0), .int .i64 a1] rfl (by (try simp only [List.map_toArray, List.map_cons, List.map_nil]); first | done | (rw [hT_HR0] <;> rfl) | rfl | (simp only [List.length_drop, List.length_take]; rfl)) ?_; (try rw [← hT_HR0]); (with_reducible refine (field_Field_Root.calls _ _ l0 a1 t101 t102 _ ?side1 ?side2 A7.out).mono ?_); (case side1 => repeat (first | exact HR0.out | (with_reducible refine Kd.C_alloc ?_ _) | (with_reducible refine Kd.C_drewN ?_ _) | (with_reducible refine Kd.C_drew ?_))); (case side2 => exact HC0.out); rintro e w' ⟨rfl, ⟨nd, rfl⟩⟩; refine ⟨_, rfl, ?_⟩))
    (try simp only [Act.put, List.setIfInBounds_toArray, List.set_cons_zero, List.set_cons_succ])
    go_cut [29] (fun v29 wc => ∃ (kq : Nat) (x29_7 : Bool), v29 = .bool x29_7 ∧ Aside0 (twiddle_Root.j0 kq l0 t101 t102 x29_7 = some (r1, r2)) ∧ Aside0 (kq ≤ k) ∧ Drawn0 w wc)
    case first =>
     have H := HC8.out
     clear HC8
     by_cases c9 : t102 = 0
     ·rw [if_pos c9] at H
      have c9b0 : (t102 == 0) = true := beq_iff_eq.mpr c9
      have c9b1 : (t102 != 0) = false := bne_eq_false_iff_eq.mpr c9
      clear c9
      (first | rw [c9b0] | (simp only [i64_w, i32_w]; rw [c9b0]) | skip)
      have H' := Aside0.mk H
      clear H
      go_wp2
      go_meet
      case rel => exact ⟨_, (a2), (by first | rfl | (simp; done) | (simp [*]; done)), H', ⟨by first | omega | exact Nat.le_refl _⟩, by repeat (first | exact Drawn0.refl _ | apply Drawn0.step)⟩
     ·rw [if_neg c9] at H
      have c9b0 : (t102 == 0) = false := beq_eq_false_iff_ne.mpr c9
      have c9b1 : (t102 != 0) = true := bne_iff_ne.mpr c9
      (first | rw [c9b0] | (simp only [i64_w, i32_w]; rw [c9b0]) | skip)
      have H' := Aside0.mk H
      clear H
      go_wp2
      go_meet
      case rel => exact ⟨_, (false), (by first | rfl | (simp; done) | (simp [*]; done)), H', ⟨by first | omega | exact Nat.le_refl _⟩, by repeat (first | exact Drawn0.refl _ | apply Drawn0.step)⟩
    case rest =>
     clear HC8
     try clear p2
     try clear c4
     try clear c4b0
     try clear c4b1
     try clear c4b2
     try clear c5
     try clear c5b0
     try clear c6
     try clear c6b0
     try clear c9
     try clear c9b0
     try clear c9b1
     obtain ⟨kq, x29_7, rfl, HA, HJ7, ⟨mc7, rfl⟩⟩ := hcut
     cases kq with
     | zero => exact absurd HA.out (by simp [twiddle_Root.j0])
     | succ kj7 =>
      have H := HA.out
      clear HA
      simp only [twiddle_Root.j0] at H
      by_cases c10 : x29_7 = true
      ·subst c10
       have H1 : ((field_Field_Inv.f l0 t101).bind fun t103 => (some (t103, t102))) = some (r1, r2) := by rw [if_pos rfl] at H <;> exact H
       clear H
       have H := H1
       clear H1
       replace H := Option.bind_eq_some_iff.mp H
       obtain ⟨t103, A110, H⟩ := H
       replace H : (some (t103, t102)) = some (r1, r2) := H
       have A11 := Aside0.mk A110
       clear A110
       simp only [Option.some.injEq, Prod.mk.injEq] at H
       obtain ⟨rfl, rfl⟩ := H
       go_wp2_with (first | ((with_reducible refine gate_callee (f := 32) rfl ?_); refine goesL_ (some 32) rfl rfl Try.func32 (by kernel_rfl) rfl #[toPtr (.slice A0 l0.length c0), .int .u64 t101] rfl (by (try simp only [List.map_toArray, List.map_cons, List.map_nil]); first | done | (rw [hT_HR0] <;> rfl) | rfl | (simp only [List.length_drop, List.length_take]; rfl)) ?_; (try rw [← hT_HR0]); (with_reducible refine (field_Field_Inv.calls _ _ l0 t101 t103 _ ?side1 ?side2 A11.out).mono ?_); (case side1 => repeat (first | exact HR0.out | (with_reducible refine Kd.C_alloc ?_ _) | (with_reducible refine Kd.C_drewN ?_ _) | (with_reducible refine Kd.C_drew ?_))); (case side2 => exact HC0.out); rintro e w' ⟨rfl, ⟨nd, rfl⟩⟩; refine ⟨_, rfl, ?_⟩))
       go_ret2
       exact ⟨by first | rfl | (simp; done) | (simp [*]; done), by repeat (first | exact Drawn0.refl _ | apply Drawn0.step)⟩
      ·replace c10 := Bool.eq_false_iff.mpr c10
       subst c10
       have H1 : (some (t101, t102)) = some (r1, r2) := by rw [if_neg (show ¬ (false = true) by decide)] at H <;> exact H
       clear H
       have H := H1
       clear H1
       simp only [Option.some.injEq, Prod.mk.injEq] at H
       obtain ⟨rfl, rfl⟩ := H
       go_wp2
       go_ret2
       exact ⟨by first | rfl | (simp; done) | (simp [*]; done), by repeat (first | exact Drawn0.refl _ | apply Drawn0.step)⟩
noncomputable def twiddle_Table.l0 : Nat → List (Fld) → Int → List Int → Int → Int → Int → Option (List Int × Int)
 | 0, _, _, _, _, _, _ => none
 | k + 1, x0, x10, x11, x12, x30, x31 => if x31 < x30 then (if 0 ≤ x31 then (if x31 < (x11.length : Int) then ((field_Field_Times.f x0 x10 x12).bind fun t111 => (twiddle_Table.l0 k x0 x10 (x11.set (x31 : Int).toNat x12) t111 x30 (wrap64 (x31 + 1)))) else (none)) else (none)) else (some (x11, 0))
noncomputable def twiddle_Table.f (k : Nat) (l0 : List (Fld)) (a1 : Int) (a2 : Bool) : Option (List Int × Int) := (twiddle_Root.f k l0 a1 a2).bind fun bt104 => (if bt104.2 = 0 then ((field_Field_Lift.f l0 bt104.1).bind fun t106 => (if 0 ≤ a1 then (if (a1 : Int).toNat ≤ 35184372088832 then ((some (List.replicate (a1 : Int).toNat 0 : List Int)).bind fun y107 => (twiddle_Table.l0 k l0 t106 y107 1 (y107.length : Int) 0)) else (none)) else (none))) else (some (([] : List Int), bt104.2)))
theorem twiddle_Table.mono_l : ∀ k, (∀ y0 y1 y2 y3 y4 y5, LeO (twiddle_Table.l0 k y0 y1 y2 y3 y4 y5) (twiddle_Table.l0 (k + 1) y0 y1 y2 y3 y4 y5))
 | 0 => fun _ _ _ _ _ _ r h => by simp [twiddle_Table.l0] at h
 | k + 1 => by
  have ih0 := twiddle_Table.mono_l k
  ·intro y0 y1 y2 y3 y4 y5
   unfold twiddle_Table.l0
   repeat' first
   | (with_reducible exact ih0 _ _ _ _ _ _)
   | (with_reducible exact twiddle_Root.mono _ _ _ _)
   | (with_reducible exact LeO.refl _)
   | (with_reducible exact LeO.none _)
   | (with_reducible refine LeO.ite ?_ ?_)
   | (with_reducible refine LeO.bind ?_ (fun _ => ?_))
   | exact ih0 _ _ _ _ _ _
   | exact twiddle_Root.mono _ _ _ _
   | exact LeO.none _
   | refine LeO.ite ?_ ?_
   | refine LeO.bind ?_ (fun _ => ?_)
theorem twiddle_Table.mono : ∀ a0 a1 a2 k, LeO (twiddle_Table.f k a0 a1 a2) (twiddle_Table.f (k + 1) a0 a1 a2) := by
 intro a0 a1 a2 k
 have ih0 := twiddle_Table.mono_l k
 unfold twiddle_Table.f
 repeat' first
   | (with_reducible exact ih0 _ _ _ _ _ _)
   | (with_reducible exact twiddle_Root.mono _ _ _ _)
   | (with_reducible exact LeO.refl _)
   | (with_reducible exact LeO.none _)
   | (with_reducible refine LeO.ite ?_ ?_)
   | (with_reducible refine LeO.bind ?_ (fun _ => ?_))
   | exact ih0 _ _ _ _ _ _
   | exact twiddle_Root.mono _ _ _ _
   | exact LeO.none _
   | refine LeO.ite ?_ ?_
   | refine LeO.bind ?_ (fun _ => ?_)
set_option maxHeartbeats 8000000 in
set_option maxRecDepth 100000 in
theorem twiddle_Table.calls (k : Nat) (A0 : Option Addr) (c0 : Nat) (l0 : List (Fld)) (a1 : Int) (a2 : Bool) (r1 : List Int) (r2 : Int) (w : World) (hr0 : Kd.C kFld w A0 l0.length l0) (hc0 : l0.length ≤ c0) (h : twiddle_Table.f k l0 a1 a2 = some (r1, r2)) :
  Calls Try.prog 27 #[toPtr (.slice A0 l0.length c0), .int .i64 a1, .bool a2] w fun e w' => ∃ v0_ : Value, e = .returned (.tuple #[v0_, .int .i64 r2]) ∧ Kd.R (Kd.int .u64) 31 w' w.heap.size (fun _ => True) v0_ r1 ∧ Below w.heap.size w w' := by
 have HR0 := Aside0.mk hr0
 have HC0 := Aside0.mk hc0
 clear hr0 hc0
 have HB := Aside0.mk (Below.refl w.heap.size w)
 have H : ((twiddle_Root.f k l0 a1 a2).bind fun bt104 => (if bt104.2 = 0 then ((field_Field_Lift.f l0 bt104.1).bind fun t106 => (if 0 ≤ a1 then (if (a1 : Int).toNat ≤ 35184372088832 then ((some (List.replicate (a1 : Int).toNat 0 : List Int)).bind fun y107 => (twiddle_Table.l0 k l0 t106 y107 1 (y107.length : Int) 0)) else (none)) else (none))) else (some (([] : List Int), bt104.2)))) = some (r1, r2) := h
 clear h
 replace H := Option.bind_eq_some_iff.mp H
 obtain ⟨⟨t104, t105⟩, A40, H⟩ := H
 replace H : (if t105 = 0 then ((field_Field_Lift.f l0 t104).bind fun t106 => (if 0 ≤ a1 then (if (a1 : Int).toNat ≤ 35184372088832 then ((some (List.replicate (a1 : Int).toNat 0 : List Int)).bind fun y107 => (twiddle_Table.l0 k l0 t106 y107 1 (y107.length : Int) 0)) else (none)) else (none))) else (some (([] : List Int), t105))) = some (r1, r2) := H
 have A4 := Aside0.mk A40
 clear A40
 by_cases c5 : t105 = 0
 ·rw [if_pos c5] at H
  have c5b0 : (t105 == 0) = true := beq_iff_eq.mpr c5
  have c5b1 : (t105 != 0) = false := bne_eq_false_iff_eq.mpr c5
  clear c5
  replace H := Option.bind_eq_some_iff.mp H
  obtain ⟨t106, A60, H⟩ := H
  replace H : (if 0 ≤ a1 then (if (a1 : Int).toNat ≤ 35184372088832 then ((some (List.replicate (a1 : Int).toNat 0 : List Int)).bind fun y107 => (twiddle_Table.l0 k l0 t106 y107 1 (y107.length : Int) 0)) else (none)) else (none)) = some (r1, r2) := H
  have A6 := Aside0.mk A60
  clear A60
  by_cases c7 : 0 ≤ a1
  ·rw [if_pos c7] at H
   have c7b0 := eq_true c7
   have c7b1 : decide (0 ≤ a1) = true := decide_eq_true c7
   clear c7
   by_cases c8 : (a1 : Int).toNat ≤ 35184372088832
   ·rw [if_pos c8] at H
    have c8b0 := eq_true c8
    have c8b1 : decide ((a1 : Int).toNat ≤ 35184372088832) = true := decide_eq_true c8
    clear c8
    obtain ⟨y107, hy107⟩ : ∃ y_ : List Int, y_ = (List.replicate (a1 : Int).toNat 0) := ⟨_, rfl⟩
    replace H : (twiddle_Table.l0 k l0 t106 y107 1 (y107.length : Int) 0) = some (r1, r2) := by first | (rw [hy107]; with_reducible exact H) | (have H2_ := (Option.bind_some _ _).symm.trans H; rw [hy107]; with_reducible exact H2_) | (have H2_ := (Option.bind_some _ _).symm.trans H; with_reducible exact H2_) | with_reducible exact H | (rw [hy107]; exact H) | exact H
    have Ny107 := Aside0.mk hy107
    clear hy107
    have H' := Aside0.mk H
    clear H
    go_enter Try.func27, Try.ntmps27
    go_wp2_with (first | ((with_reducible refine gate_callee (f := 44) rfl ?_); refine goesL_ (some 18) rfl rfl Try.func44 (by kernel_rfl) rfl #[toPtr (.slice A0 l0.length c0), .int .i64 a1, .bool a2] rfl (by (try simp only [List.map_toArray, List.map_cons, List.map_nil]); first | done | (rw [hT_HR0] <;> rfl) | rfl | (simp only [List.length_drop, List.length_take]; rfl)) ?_; (try rw [← hT_HR0]); (with_reducible refine (twiddle_Root.calls k _ _ l0 a1 a2 t104 t105 _ ?side1 ?side2 A4.out).mono ?_); (case side1 => repeat (first | exact HR0.out | (with_reducible refine Kd.C_alloc ?_ _) | (with_reducible refine Kd.C_drewN ?_ _) | (with_reducible refine Kd.C_drew ?_))); (case side2 => exact HC0.out); rintro e w' ⟨rfl, ⟨nd, rfl⟩⟩; refine ⟨_, rfl, ?_⟩) | ((with_reducible refine gate_callee (f := 28) rfl ?_); refine goesL_ (some 26) rfl rfl Try.func28 (by kernel_rfl) rfl #[toPtr (.slice A0 l0.length c0), .int .u64 t104] rfl (by (try simp only [List.map_toArray, List.map_cons, List.map_nil]); first | done | (rw [hT_HR0] <;> rfl) | rfl | (simp only [List.length_drop, List.length_take]; rfl)) ?_; (try rw [← hT_HR0]); (with_reducible refine (field_Field_Lift.calls _ _ l0 t104 t106 _ ?side1 ?side2 A6.out).mono ?_); (case side1 => repeat (first | exact HR0.out | (with_reducible refine Kd.C_alloc ?_ _) | (with_reducible refine Kd.C_drewN ?_ _) | (with_reducible refine Kd.C_drew ?_))); (case side2 => exact HC0.out); rintro e w' ⟨rfl, ⟨nd, rfl⟩⟩; refine ⟨_, rfl, ?_⟩) | ((with_reducible refine gate_dst (N := 28) rfl ?_); refine Kd.R_make (Kd.int .u64) _ 31 rfl (N := 28) rfl 32 _ _ rfl a1 rfl rfl Try.underlying32 (.int .u64 0) 8 info31 rfl (by decide) (by omega) 0 (ok := fun _ => True) (okp := fun _ => True) rfl (fun _ hk => hk) trivial (of_decide_eq_true (by first | (with_reducible assumption) | assumption)) (Nat.le_trans (Nat.mul_le_mul_right _ (of_decide_eq_true (by first | (with_reducible assumption) | assumption) : a1.toNat ≤ 35184372088832)) (by omega)) (Below.refl _ _) (Nat.le_refl _) ?_; intro v108 w9 ho10 hb hg_ hnew_; clear hg_ hnew_; (first | rw [← Ny107.out] at ho10 | (simp only [Int.reduceToNat] at ho10; rw [← Ny107.out] at ho10)); have n0_ := Aside0.mk (Kd.R_lower ho10 (below_size (by repeat (first | (with_reducible first | exact HB.out | apply below_alloc | apply pw_below_drewN | apply below_drew1) | exact HB.out)))); have n1_ := Aside0.mk (below_step (by repeat (first | (with_reducible first | exact HB.out | apply below_alloc | apply pw_below_drewN | apply below_drew1) | exact HB.out)) hb); clear HB; have HO109 := n0_; have HB := n1_; clear n0_ n1_; clear hb ho10; obtain ⟨Ao11, co11, eo11⟩ := Kd.R_slice HO109.out; subst eo11))
    go_loopg [12, 31] k (fun kq v12 v31 w' => ∃ (x11_1 : List Int) (x12_1 : Int) (x31_1 : Int), v12 = .int .u64 x12_1 ∧ v31 = .int .i64 x31_1 ∧ Aside0 (twiddle_Table.l0 kq l0 t106 x11_1 x12_1 (y107.length : Int) x31_1 = some (r1, r2)) ∧ Aside0 (kq ≤ k) ∧ Aside0 (Kd.R (Kd.int .u64) 31 w' w.heap.size (fun _ => True) (.slice Ao11 y107.length co11) x11_1) ∧ Aside0 (Below w.heap.size w w'))
    case atStart => exact ⟨(y107), (1), (0), (by first | rfl | (simp; done) | (simp [*]; done)), (by first | rfl | (simp; done) | (simp [*]; done)), H', ⟨Nat.le_refl _⟩, ⟨by (with_reducible repeat (first | apply Kd.R_alloc | apply Kd.R_drewN | apply Kd.R_drew)); exact HO109.out⟩, ⟨by repeat (first | (with_reducible first | exact HB.out | apply below_alloc | apply pw_below_drewN | apply below_drew1) | exact HB.out)⟩⟩
    case round =>
     clear H'
     try clear c2
     try clear p2
     try clear c4
     try clear c5
     try clear c5b0
     try clear c5b1
     try clear c7
     try clear c7b0
     try clear c7b1
     try clear c8
     try clear c8b0
     try clear c8b1
     obtain ⟨x11_1, x12_1, x31_1, rfl, rfl, HA, HK1, HO_11, HB⟩ := hrel
     have hl11_1 := (Kd.R_reads' HO_11.out).1
     rw [hl11_1] at HO_11
     (try simp only [hl11_1])
     cases gk with
     | zero => exact absurd HA.out (by simp [twiddle_Table.l0])
     | succ k1 =>
      have H := HA.out
      clear HA
      simp only [twiddle_Table.l0] at H
      by_cases c12 : x31_1 < (y107.length : Int)
      ·rw [if_pos c12] at H
       have c12b0 : decide (x31_1 < (y107.length : Int)) = true := decide_eq_true c12
       (try (have c12b0hl11_1 := c12b0; simp only [hl11_1] at c12b0hl11_1))
       clear c12
       by_cases c13 : 0 ≤ x31_1
       ·rw [if_pos c13] at H
        have c13b0 : decide (0 ≤ x31_1) = true := decide_eq_true c13
        clear c13
        by_cases c14 : x31_1 < (x11_1.length : Int)
        ·rw [if_pos c14] at H
         have c14b0 : decide (x31_1 < (x11_1.length : Int)) = true := decide_eq_true c14
         (try (have c14b0hl11_1 := c14b0; simp only [hl11_1] at c14b0hl11_1))
         clear c14
         obtain ⟨y110, hy110⟩ : ∃ y_ : List Int, y_ = (x11_1.set (x31_1 : Int).toNat x12_1) := ⟨_, rfl⟩
         replace H : ((field_Field_Times.f l0 t106 x12_1).bind fun t111 => (twiddle_Table.l0 k1 l0 t106 y110 t111 (y107.length : Int) (wrap64 (x31_1 + 1)))) = some (r1, r2) := by first | (rw [hy110]; with_reducible exact H) | (have H2_ := (Option.bind_some _ _).symm.trans H; rw [hy110]; with_reducible exact H2_) | (have H2_ := (Option.bind_some _ _).symm.trans H; with_reducible exact H2_) | with_reducible exact H | (rw [hy110]; exact H) | exact H
         have Ny110 := Aside0.mk hy110
         clear hy110
         replace H := Option.bind_eq_some_iff.mp H
         obtain ⟨t111, A160, H⟩ := H
         replace H : (twiddle_Table.l0 k1 l0 t106 y110 t111 (y107.length : Int) (wrap64 (x31_1 + 1))) = some (r1, r2) := H
         have A16 := Aside0.mk A160
         clear A160
         have H' := Aside0.mk H
         clear H
         have p15 : 0 ≤ (x31_1 : Int) := of_decide_eq_true (by first | (with_reducible assumption) | assumption)
         have q15 : (x31_1 : Int) < ((x11_1.length : Int) : Int) := of_decide_eq_true (by first | (with_reducible assumption) | assumption)
         obtain ⟨go15, co15, eo15, gb15, gl15, cl15, HG15⟩ := Kd.R_form HO_11.out (by omega)
         (first | cases eo15 | (injection eo15 with ea_ en_ ec_; (first | subst ea_ | (injection ea_ with ea_; subst ea_)); subst ec_; clear en_))
         have GB15 := Aside0.mk gb15
         have GG15 := Aside0.mk HG15
         clear gb15 gl15 HG15
         obtain ⟨hx15_0, hf15_0⟩ := Kd.R_celln 0 HO_11.out (x31_1 : Int) p15 q15
         replace p15 := eq_true p15
         replace q15 := eq_true q15
         have HP17 := Kd.R_putg HO_11.out (x31_1 : Int) x12_1
         go_wp2_with (first | ((with_reducible refine gate_store (t := 31) (p := 37) rfl ?_); refine store_event (t := 31) (p := 37) (v := ?vo_w18) (w1 := (wr.setCell ⟨go15, (x31_1 : Int).toNat, none⟩ (.int .u64 x12_1))) ?hg ?ho ?hn ?hr ?_; (case ho => rfl); (case hg => rfl); (case hn => rfl); (case hr => first | (go_simp; done) | (go_simp; rfl)); intro w18 hw; have hg : wr.grownBy w18 (some go15) := (by rw [hw]; exact HP17.2); have hp_ : Kd.R (Kd.int .u64) 31 w18 w.heap.size (fun _ => True) (.slice (some ⟨go15, 0, none⟩) x11_1.length co11) y110 := (by rw [hw, Ny110.out]; exact HP17.1); clear HP17; have n0_ := Aside0.mk (hp_); have n1_ := Aside0.mk ((by rw [hw]; exact below_set (HB.out) GB15.out : Below w.heap.size w w18)); clear HO_11; clear HB; have HO_11 := n0_; have HB := n1_; clear n0_ n1_; clear hg hw hp_) | ((with_reducible refine gate_callee (f := 33) rfl ?_); refine goesL_ (some 41) rfl rfl Try.func33 (by kernel_rfl) rfl #[toPtr (.slice A0 l0.length c0), .int .u64 t106, .int .u64 x12_1] rfl (by (try simp only [List.map_toArray, List.map_cons, List.map_nil]); first | done | (rw [hT_HR0] <;> rfl) | rfl | (simp only [List.length_drop, List.length_take]; rfl)) ?_; (try rw [← hT_HR0]); (with_reducible refine (field_Field_Times.calls _ _ l0 t106 x12_1 t111 _ ?side1 ?side2 A16.out).mono ?_); (case side1 => repeat (first | exact (Kd.C_below HR0.out HB.out) | (with_reducible refine Kd.C_alloc ?_ _) | (with_reducible refine Kd.C_drewN ?_ _) | (with_reducible refine Kd.C_drew ?_))); (case side2 => exact HC0.out); rintro e w' ⟨rfl, ⟨nd, rfl⟩⟩; refine ⟨_, rfl, ?_⟩))
         (try simp only [← hl11_1])
         go_roundg k1
         case measure => have := HK1.out; omega
         case rel => exact ⟨(y110), (t111), (wrap64 (x31_1 + 1)), (by first | rfl | (simp; done) | (simp [*]; done)), (by first | rfl | (simp; done) | (simp [*]; done)), H', ⟨by have := HK1.out; omega⟩, ⟨by (try simp only [hl11_1]); (with_reducible repeat (first | apply Kd.R_alloc | apply Kd.R_drewN | apply Kd.R_drew)); exact HO_11.out⟩, ⟨by repeat (first | (with_reducible first | exact HB.out | apply below_alloc | apply pw_below_drewN | apply below_drew1) | exact HB.out)⟩⟩
        ·rw [if_neg c14] at H
         exact absurd H (by simp)
       ·rw [if_neg c13] at H
        exact absurd H (by simp)
      ·rw [if_neg c12] at H
       have c12b0 : decide (x31_1 < (y107.length : Int)) = false := decide_eq_false c12
       (try (have c12b0hl11_1 := c12b0; simp only [hl11_1] at c12b0hl11_1))
       clear c12
       simp only [Option.some.injEq, Prod.mk.injEq] at H
       obtain ⟨rfl, rfl⟩ := H
       go_wp2
       go_ret2
       exact ⟨_, by first | rfl | (simp [errW_none, errW_some] <;> rfl) | (simp [*, errW_none, errW_some] <;> rfl), by (with_reducible repeat (first | apply Kd.R_alloc | apply Kd.R_drewN | apply Kd.R_drew)); exact HO_11.out, by repeat (first | (with_reducible first | exact HB.out | apply below_alloc | apply pw_below_drewN | apply below_drew1) | exact HB.out)⟩
   ·rw [if_neg c8] at H
    exact absurd H (by simp)
  ·rw [if_neg c7] at H
   exact absurd H (by simp)
 ·rw [if_neg c5] at H
  have c5b0 : (t105 == 0) = false := beq_eq_false_iff_ne.mpr c5
  have c5b1 : (t105 != 0) = true := bne_iff_ne.mpr c5
  simp only [Option.some.injEq, Prod.mk.injEq] at H
  obtain ⟨rfl, rfl⟩ := H
  go_enter Try.func27, Try.ntmps27
  go_wp2_with (first | ((with_reducible refine gate_callee (f := 44) rfl ?_); refine goesL_ (some 18) rfl rfl Try.func44 (by kernel_rfl) rfl #[toPtr (.slice A0 l0.length c0), .int .i64 a1, .bool a2] rfl (by (try simp only [List.map_toArray, List.map_cons, List.map_nil]); first | done | (rw [hT_HR0] <;> rfl) | rfl | (simp only [List.length_drop, List.length_take]; rfl)) ?_; (try rw [← hT_HR0]); (with_reducible refine (twiddle_Root.calls k _ _ l0 a1 a2 t104 t105 _ ?side1 ?side2 A4.out).mono ?_); (case side1 => repeat (first | exact HR0.out | (with_reducible refine Kd.C_alloc ?_ _) | (with_reducible refine Kd.C_drewN ?_ _) | (with_reducible refine Kd.C_drew ?_))); (case side2 => exact HC0.out); rintro e w' ⟨rfl, ⟨nd, rfl⟩⟩; refine ⟨_, rfl, ?_⟩))
  go_ret2
  exact ⟨_, by first | rfl | (simp [errW_none, errW_some] <;> rfl) | (simp [*, errW_none, errW_some] <;> rfl), by first | exact Kd.R_nil _ _ _ _ _ | exact Kd.N_nil _ _ _ _ _ | exact Kd.V_nil _ _ _ _ _ | exact Kd.Q_nil _ _ _ _ _ | exact Kd.S_nil _ _ _ _ _, by repeat (first | (with_reducible first | exact HB.out | apply below_alloc | apply pw_below_drewN | apply below_drew1) | exact HB.out)⟩
end Go.Proofs.Ytndkmnjbjlfeaaa.XW
end
section
namespace Go.Proofs.Ytndkmnjbjlfeaaa.XW
open Go Go.RowKit Go.Proofs.YtndkmnjbjlfeaaaW.PrintWords Go.Proofs.YtndkmnjbjlfeaaaW.PrintLast Go.Proofs.YtndkmnjbjlfeaaaW.PrintMore Go.Proofs.Ytndkmnjbjlfeaaa.Given Go.Proofs.Ytndkmnjbjlfeaaa.M Go.Proofs.Ytndkmnjbjlfeaaa.Mont Go.Proofs.Ytndkmnjbjlfeaaa.XS Go.Proofs.Ytndkmnjbjlfeaaa.XT Go.Proofs.Ytndkmnjbjlfeaaa.XR Go.Proofs.Ytndkmnjbjlfeaaa.F06
def liftV (l0 : List Fld) (x : Int) : Int := match l0 with
  | [] => 0
  | F :: _ => mIn F.p x
theorem liftV_f {l0 : List Fld} {x : Int} (h : U x) : field_Field_Lift.f l0 x = some (liftV l0 x) := by
  unfold field_Field_Lift.f liftV
  rw [if_pos h]
  cases l0 <;> rfl
noncomputable def twiddle_Lifted.f (k : Nat) (l0 : List Fld) (a1 : Int) (a2 : Bool) : Option (List Int × Int) :=
  (twiddle_Table.f k l0 a1 a2).bind fun t => if (∀ x ∈ t.1, U x) ∧ t.1.length ≤ 1000000 then some (t.1.map (liftV l0), t.2) else none
theorem twiddle_Lifted.mono : ∀ a0 a1 a2 k, LeO (twiddle_Lifted.f k a0 a1 a2) (twiddle_Lifted.f (k + 1) a0 a1 a2) := by
  intro a0 a1 a2 k
  unfold twiddle_Lifted.f
  exact LeO.bind (twiddle_Table.mono _ _ _ _) (fun _ => LeO.refl _)
def mixL (l0 : List Fld) (t : List Int) (i : Nat) : List Int := (t.take i).map (liftV l0) ++ t.drop i
theorem mix_len (l0 : List Fld) {t : List Int} {i : Nat} (h : i ≤ t.length) : (mixL l0 t i).length = t.length := by
  unfold mixL
  rw [List.length_append, List.length_map, List.length_take, List.length_drop]
  omega
theorem mix_rd (l0 : List Fld) {t : List Int} {i : Nat} (h : i < t.length) : (mixL l0 t i).getD i 0 = t[i] := by
  unfold mixL
  have hl : ((t.take i).map (liftV l0)).length = i := by rw [List.length_map, List.length_take]; omega
  rw [List.getD_eq_getElem?_getD, List.getElem?_append_right (by omega), hl, Nat.sub_self, List.getElem?_drop, Nat.add_zero, List.getElem?_eq_getElem h]
  rfl
theorem mix_set (l0 : List Fld) {t : List Int} {i : Nat} (h : i < t.length) : (mixL l0 t i).set i (liftV l0 t[i]) = mixL l0 t (i + 1) := by
  unfold mixL
  have hl : ((t.take i).map (liftV l0)).length = i := by rw [List.length_map, List.length_take]; omega
  rw [List.set_append_right _ _ (by omega), hl, Nat.sub_self, List.drop_eq_getElem_cons h, List.set_cons_zero, List.take_succ_eq_append_getElem h, List.map_append, List.append_assoc]
  rfl
set_option maxHeartbeats 4000000 in
set_option maxRecDepth 100000 in
theorem twiddle_Lifted.calls (k : Nat) (A0 : Option Addr) (c0 : Nat) (l0 : List (Fld)) (a1 : Int) (a2 : Bool) (r1 : List Int) (r2 : Int) (w : World) (hr0 : Kd.C kFld w A0 l0.length l0) (hc0 : l0.length ≤ c0) (h : twiddle_Lifted.f k l0 a1 a2 = some (r1, r2)) :
    Calls Try.prog 14 #[toPtr (.slice A0 l0.length c0), .int .i64 a1, .bool a2] w fun e w' => ∃ v0_ : Value, e = .returned (.tuple #[v0_, .int .i64 r2]) ∧ Kd.R (Kd.int .u64) 31 w' w.heap.size (fun _ => True) v0_ r1 ∧ Below w.heap.size w w' := by
  unfold twiddle_Lifted.f at h
  obtain ⟨⟨t1, t2⟩, hA, h⟩ := Option.bind_eq_some_iff.1 h
  simp only at h
  split at h
  case isFalse => cases h
  rename_i hu
  obtain ⟨rfl, rfl⟩ := Prod.mk.inj (Option.some.inj h)
  obtain ⟨hu, hn⟩ := hu
  have HA := Aside0.mk hA
  have HR0 := Aside0.mk hr0
  have HC0 := Aside0.mk hc0
  have HU := Aside0.mk hu
  have HN := Aside0.mk hn
  clear hA hr0 hc0 hu hn h
  go_enter Try.func14, Try.ntmps14
  go_wp2_with (first
    | (go_at_call 27; (with_reducible refine (twiddle_Table.calls k A0 c0 l0 a1 a2 t1 t2 _ HR0.out HC0.out HA.out).mono ?_); rintro e w1 ⟨v1, rfl, ho, hb⟩; obtain ⟨A1, c1, rfl⟩ := Kd.R_slice ho; have HO1 := Aside0.mk ho; have HB1 := Aside0.mk hb; clear ho hb))
  clear HA
  go_loopw [21] (fun v21 wr => ∃ (x : Int), v21 = .int .i64 x ∧ 0 ≤ x ∧ x ≤ (t1.length : Int) ∧ Aside0 (Kd.R (Kd.int .u64) 31 wr w.heap.size (fun _ => True) (.slice A1 t1.length c1) (mixL l0 t1 x.toNat)) ∧ Aside0 (Below w.heap.size w wr)) (fun v21 _ => t1.length - (intOf v21).toNat)
  case atStart => exact ⟨0, rfl, Int.le_refl _, Int.natCast_nonneg _, ⟨HO1.out⟩, ⟨HB1.out⟩⟩
  case round =>
    clear HO1 HB1
    obtain ⟨x, rfl, h0, hx, HO, HB⟩ := hrel
    by_cases hlt : x < (t1.length : Int)
    · have c1b0 : decide (x < (t1.length : Int)) = true := decide_eq_true hlt
      have hi : x.toNat < t1.length := by omega
      obtain ⟨y, hy⟩ : ∃ y, y = t1[x.toNat] := ⟨_, rfl⟩
      have hL := liftV_f (l0 := l0) (HU.out y (by rw [hy]; exact List.getElem_mem hi))
      have hset := mix_set l0 hi
      have hrd := mix_rd l0 hi
      rw [← hy] at hset hrd
      have HL := Aside0.mk hL
      have HS := Aside0.mk hset
      have ml := mix_len l0 (t := t1) (i := x.toNat) (by omega)
      obtain ⟨g, cap, eo, gb, gl, HG⟩ := Kd.R_form HO.out (by omega)
      injection eo with ea en ec
      subst ea
      have GB := Aside0.mk gb
      obtain ⟨hx_0, hf_0⟩ := Kd.R_celln 0 HO.out x h0 hlt
      have erd : rdOf 0 (mixL l0 t1 x.toNat) x = y := hrd
      rw [erd] at hx_0
      have p1 := eq_true h0
      have q1 := eq_true hlt
      have HLT := Aside0.mk hlt
      have H0 := Aside0.mk h0
      clear hL hset hrd ml en ec gb gl HG erd hy hi hlt hx h0
      go_wp2_with (first
        | (go_at_call 28; (with_reducible refine (field_Field_Lift.calls A0 c0 l0 y (liftV l0 y) _ (Kd.C_below HR0.out HB.out) HC0.out HL.out).mono ?_); rintro e w2 ⟨rfl, ⟨nd, hnd⟩⟩; have HO2 : Aside0 (Kd.R (Kd.int .u64) 31 w2 w.heap.size (fun _ => True) (.slice (some ⟨g, 0, none⟩) t1.length c1) (mixL l0 t1 x.toNat)) := ⟨by rw [hnd]; exact Kd.R_drewN HO.out nd⟩; have HB2 : Aside0 (Below w.heap.size w w2) := ⟨by rw [hnd]; exact pw_below_drewN HB.out nd⟩; have hf2 : w2.frozen? ⟨g, x.toNat, none⟩ = false := (by rw [hnd]; exact hf_0); have hx2 : w2.cell? ⟨g, x.toNat, none⟩ = some (.int .u64 y) := (by rw [hnd]; exact hx_0); clear hnd))
      go_roundw
      case rel =>
        have := HLT.out
        have := H0.out
        have hn := HN.out
        exact ⟨x + 1, congrArg (Value.int .i64) (w64_id (x + 1) (by omega) (by omega)), by omega, by omega, ⟨by rw [show (x + 1).toNat = x.toNat + 1 by omega, ← HS.out]; exact (Kd.R_putg HO2.out x (liftV l0 y)).1⟩, ⟨below_set HB2.out GB.out⟩⟩
      case measure =>
        have := HLT.out
        have := H0.out
        have hn := HN.out
        rw [w64_id (x + 1) (by omega) (by omega)]
        simp [intOf]; omega
    · have c1b0 : decide (x < (t1.length : Int)) = false := decide_eq_false hlt
      have hm : mixL l0 t1 x.toNat = t1.map (liftV l0) := by
        unfold mixL
        rw [List.take_of_length_le (by omega), List.drop_eq_nil_of_le (by omega), List.append_nil]
      have HM := Aside0.mk hm
      clear hm hlt hx h0
      go_wp2
      go_ret2
      exact ⟨_, by first | rfl | (simp; done), by rw [← HM.out]; exact HO.out, HB.out⟩
end Go.Proofs.Ytndkmnjbjlfeaaa.XW
end
section
namespace Go.Proofs.Ytndkmnjbjlfeaaa.XG
open Go.RowKit Go.Proofs.Ytndkmnjbjlfeaaa.Given Go.Proofs.Ytndkmnjbjlfeaaa.Row05 Go.Proofs.Ytndkmnjbjlfeaaa.XS Go.Proofs.Ytndkmnjbjlfeaaa.XT Go.Proofs.Ytndkmnjbjlfeaaa.XR Go.Proofs.Ytndkmnjbjlfeaaa.F06 Go.Proofs.Ytndkmnjbjlfeaaa.XK Go.Proofs.Ytndkmnjbjlfeaaa.XW Go.Proofs.YtndkmnjbjlfeaaaW.PrintWords Go.Proofs.YtndkmnjbjlfeaaaW.PrintLast Go.Proofs.YtndkmnjbjlfeaaaW.PrintMore
attribute [local go_sem] max2_int min2_int max_two min_two max_three min_three max_four min_four   -- for this text's walks alone
set_option linter.unusedVariables false
set_option linter.unusedSimpArgs false
noncomputable def dft_Check.f (l0 : List (Fld)) (a1 : Int) (a2 : Int) : Option (Int) := if (l0.length : Int) = 0 then (some 2) else (if a1 < 1 then (some 1) else (if a1 > a2 then (some 13) else ((field_Field_Divides.f l0 a1).bind fun t101 => (if t101 = true then (some 0) else (some 4)))))
set_option maxHeartbeats 8000000 in
set_option maxRecDepth 100000 in
theorem dft_Check.calls (A0 : Option Addr) (c0 : Nat) (l0 : List (Fld)) (a1 : Int) (a2 : Int) (r : Int) (w : World) (hr0 : Kd.C kFld w A0 l0.length l0) (hc0 : l0.length ≤ c0) (h : dft_Check.f l0 a1 a2 = some r) :
  Calls Try.prog 12 #[toPtr (.slice A0 l0.length c0), .int .i64 a1, .int .i64 a2] w fun e w' => e = .returned (.int .i64 r) ∧ Drawn0 w w' := by
 have HR0 := Aside0.mk hr0
 have HC0 := Aside0.mk hc0
 clear hr0 hc0
 have H : (if (l0.length : Int) = 0 then (some 2) else (if a1 < 1 then (some 1) else (if a1 > a2 then (some 13) else ((field_Field_Divides.f l0 a1).bind fun t101 => (if t101 = true then (some 0) else (some 4)))))) = some r := h
 clear h
 by_cases c4 : (l0.length : Int) = 0
 ·rw [if_pos c4] at H
  have c4b0 : ((l0.length : Int) == 0) = true := beq_iff_eq.mpr c4
  have c4b1 : ((l0.length : Int) != 0) = false := bne_eq_false_iff_eq.mpr c4
  have hT_HR0 := pf_none A0 c0 (show l0.length = 0 by omega)
  (try rw [hT_HR0])
  clear c4
  obtain rfl := Option.some.inj H
  go_enter Try.func12, Try.ntmps12
  go_wp2
  go_ret
  exact ⟨by first | rfl | (simp; done) | (simp [*]; done), by repeat (first | exact Drawn0.refl _ | apply Drawn0.step)⟩
 ·rw [if_neg c4] at H
  have c4b0 : ((l0.length : Int) == 0) = false := beq_eq_false_iff_ne.mpr c4
  have c4b1 : ((l0.length : Int) != 0) = true := bne_iff_ne.mpr c4
  have c4b2 : ¬ (l0 = []) := fun h_ => c4 (by rw [h_]; rfl)
  obtain ⟨aT_HR0, hT_HR0⟩ := pf_some A0 c0 (show ¬ (l0.length = 0) by omega)
  (try rw [hT_HR0])
  by_cases c5 : a1 < 1
  ·rw [if_pos c5] at H
   have c5b0 : decide (a1 < 1) = true := decide_eq_true c5
   clear c5
   obtain rfl := Option.some.inj H
   go_enter Try.func12, Try.ntmps12
   go_wp2
   go_ret
   exact ⟨by first | rfl | (simp; done) | (simp [*]; done), by repeat (first | exact Drawn0.refl _ | apply Drawn0.step)⟩
  ·rw [if_neg c5] at H
   have c5b0 : decide (a1 < 1) = false := decide_eq_false c5
   clear c5
   by_cases c6 : a1 > a2
   ·rw [if_pos c6] at H
    have c6b0 : decide (a2 < a1) = true := decide_eq_true c6
    clear c6
    obtain rfl := Option.some.inj H
    go_enter Try.func12, Try.ntmps12
    go_wp2
    go_ret
    exact ⟨by first | rfl | (simp; done) | (simp [*]; done), by repeat (first | exact Drawn0.refl _ | apply Drawn0.step)⟩
   ·rw [if_neg c6] at H
    have c6b0 : decide (a2 < a1) = false := decide_eq_false c6
    clear c6
    replace H := Option.bind_eq_some_iff.mp H
    obtain ⟨t101, A70, H⟩ := H
    replace H : (if t101 = true then (some 0) else (some 4)) = some r := H
    have A7 := Aside0.mk A70
    clear A70
    by_cases c8 : t101 = true
    ·subst c8
     have H1 : (some 0) = some r := by rw [if_pos rfl] at H <;> exact H
     clear H
     have H := H1
     clear H1
     obtain rfl := Option.some.inj H
     go_enter Try.func12, Try.ntmps12
     go_wp2_with (first | ((with_reducible refine gate_callee (f := 25) rfl ?_); refine goesL_ (some 20) rfl rfl Try.func25 (by kernel_rfl) rfl #[toPtr (.slice A0 l0.length c0), .int .i64 a1] rfl (by (try simp only [List.map_toArray, List.map_cons, List.map_nil]); first | done | (rw [hT_HR0] <;> rfl) | rfl | (simp only [List.length_drop, List.length_take]; rfl)) ?_; (try rw [← hT_HR0]); (with_reducible refine (field_Field_Divides.calls _ _ l0 a1 true _ ?side1 ?side2 A7.out).mono ?_); (case side1 => repeat (first | exact HR0.out | (with_reducible refine Kd.C_alloc ?_ _) | (with_reducible refine Kd.C_drewN ?_ _) | (with_reducible refine Kd.C_drew ?_))); (case side2 => exact HC0.out); rintro e w' ⟨rfl, ⟨nd, rfl⟩⟩; refine ⟨_, rfl, ?_⟩))
     go_ret
     exact ⟨by first | rfl | (simp; done) | (simp [*]; done), by repeat (first | exact Drawn0.refl _ | apply Drawn0.step)⟩
    ·replace c8 := Bool.eq_false_iff.mpr c8
     subst c8
     have H1 : (some 4) = some r := by rw [if_neg (show ¬ (false = true) by decide)] at H <;> exact H
     clear H
     have H := H1
     clear H1
     obtain rfl := Option.some.inj H
     go_enter Try.func12, Try.ntmps12
     go_wp2_with (first | ((with_reducible refine gate_callee (f := 25) rfl ?_); refine goesL_ (some 20) rfl rfl Try.func25 (by kernel_rfl) rfl #[toPtr (.slice A0 l0.length c0), .int .i64 a1] rfl (by (try simp only [List.map_toArray, List.map_cons, List.map_nil]); first | done | (rw [hT_HR0] <;> rfl) | rfl | (simp only [List.length_drop, List.length_take]; rfl)) ?_; (try rw [← hT_HR0]); (with_reducible refine (field_Field_Divides.calls _ _ l0 a1 false _ ?side1 ?side2 A7.out).mono ?_); (case side1 => repeat (first | exact HR0.out | (with_reducible refine Kd.C_alloc ?_ _) | (with_reducible refine Kd.C_drewN ?_ _) | (with_reducible refine Kd.C_drew ?_))); (case side2 => exact HC0.out); rintro e w' ⟨rfl, ⟨nd, rfl⟩⟩; refine ⟨_, rfl, ?_⟩))
     go_ret
     exact ⟨by first | rfl | (simp; done) | (simp [*]; done), by repeat (first | exact Drawn0.refl _ | apply Drawn0.step)⟩
noncomputable def dft_Good.l0 : Nat → List (Fld) → List Int → Int → Int → Option (Bool)
 | 0, _, _, _, _ => none
 | k + 1, x0, x7, x8, x9 => if x9 < x8 then (if 0 ≤ x9 then (if x9 < (x7.length : Int) then ((field_Field_Good.f x0 (rd x7 x9)).bind fun t103 => (if t103 = true then (dft_Good.l0 k x0 x7 x8 (wrap64 (x9 + 1))) else (some false))) else (none)) else (none)) else (if (x0.length : Int) = 0 then (some false) else (some true))
noncomputable def dft_Good.f (k : Nat) (l0 : List (Fld)) (l1 : List Int) : Option (Bool) := if (l0.length : Int) = 0 then (dft_Good.l0 k l0 l1 (l1.length : Int) 0) else (dft_Good.l0 k l0 l1 (l1.length : Int) 0)
theorem dft_Good.mono_l : ∀ k, (∀ y0 y1 y2 y3, LeO (dft_Good.l0 k y0 y1 y2 y3) (dft_Good.l0 (k + 1) y0 y1 y2 y3))
 | 0 => fun _ _ _ _ r h => by simp [dft_Good.l0] at h
 | k + 1 => by
  have ih0 := dft_Good.mono_l k
  ·intro y0 y1 y2 y3
   unfold dft_Good.l0
   repeat' first
   | (with_reducible exact ih0 _ _ _ _)
   | (with_reducible exact LeO.refl _)
   | (with_reducible exact LeO.none _)
   | (with_reducible refine LeO.ite ?_ ?_)
   | (with_reducible refine LeO.bind ?_ (fun _ => ?_))
   | exact ih0 _ _ _ _
   | exact LeO.none _
   | refine LeO.ite ?_ ?_
   | refine LeO.bind ?_ (fun _ => ?_)
theorem dft_Good.mono : ∀ a0 a1 k, LeO (dft_Good.f k a0 a1) (dft_Good.f (k + 1) a0 a1) := by
 intro a0 a1 k
 have ih0 := dft_Good.mono_l k
 unfold dft_Good.f
 repeat' first
   | (with_reducible exact ih0 _ _ _ _)
   | (with_reducible exact LeO.refl _)
   | (with_reducible exact LeO.none _)
   | (with_reducible refine LeO.ite ?_ ?_)
   | (with_reducible refine LeO.bind ?_ (fun _ => ?_))
   | exact ih0 _ _ _ _
   | exact LeO.none _
   | refine LeO.ite ?_ ?_
   | refine LeO.bind ?_ (fun _ => ?_)
set_option maxHeartbeats 8000000 in
set_option maxRecDepth 100000 in
theorem dft_Good.calls (k : Nat) (A0 : Option Addr) (c0 : Nat) (l0 : List (Fld)) (A1 : Option Addr) (c1 : Nat) (l1 : List Int) (r : Bool) (w : World) (hr0 : Kd.C kFld w A0 l0.length l0) (hc0 : l0.length ≤ c0) (hr1 : Kd.C (Kd.int .u64) w A1 l1.length l1) (hc1 : l1.length ≤ c1) (h : dft_Good.f k l0 l1 = some r) :
  Calls Try.prog 13 #[toPtr (.slice A0 l0.length c0), .slice A1 l1.length c1] w fun e w' => e = .returned (.bool r) ∧ Drawn0 w w' := by
 have HR0 := Aside0.mk hr0
 have HC0 := Aside0.mk hc0
 clear hr0 hc0
 have HR1 := Aside0.mk hr1
 have HC1 := Aside0.mk hc1
 clear hr1 hc1
 have H : (if (l0.length : Int) = 0 then (dft_Good.l0 k l0 l1 (l1.length : Int) 0) else (dft_Good.l0 k l0 l1 (l1.length : Int) 0)) = some r := h
 clear h
 by_cases c3 : (l0.length : Int) = 0
 ·rw [if_pos c3] at H
  have c3b0 : ((l0.length : Int) == 0) = true := beq_iff_eq.mpr c3
  have c3b1 : ((l0.length : Int) != 0) = false := bne_eq_false_iff_eq.mpr c3
  have hT_HR0 := pf_none A0 c0 (show l0.length = 0 by omega)
  (try rw [hT_HR0])
  clear c3
  have H' := Aside0.mk H
  clear H
  go_enter Try.func13, Try.ntmps13
  go_wp2
  go_loopg [9] k (fun kq v9 w' => ∃ (x9_1 : Int), v9 = .int .i64 x9_1 ∧ Aside0 (dft_Good.l0 kq l0 l1 (l1.length : Int) x9_1 = some r) ∧ Aside0 (kq ≤ k) ∧ Drawn0 w w')
  case atStart => exact ⟨(0), (by first | rfl | (simp; done) | (simp [*]; done)), H', ⟨Nat.le_refl _⟩, by repeat (first | exact Drawn0.refl _ | apply Drawn0.step)⟩
  case round =>
   clear H'
   try clear c1
   try clear p2
   try clear c3
   try clear c3b0
   try clear c3b1
   obtain ⟨x9_1, rfl, HA, HK1, ⟨m1, rfl⟩⟩ := hrel
   cases gk with
   | zero => exact absurd HA.out (by simp [dft_Good.l0])
   | succ k1 =>
    have H := HA.out
    clear HA
    simp only [dft_Good.l0] at H
    by_cases c4 : x9_1 < (l1.length : Int)
    ·rw [if_pos c4] at H
     have c4b0 : decide (x9_1 < (l1.length : Int)) = true := decide_eq_true c4
     clear c4
     by_cases c5 : 0 ≤ x9_1
     ·rw [if_pos c5] at H
      have c5b0 : decide (0 ≤ x9_1) = true := decide_eq_true c5
      clear c5
      by_cases c6 : x9_1 < (l1.length : Int)
      ·rw [if_pos c6] at H
       have c6b0 : decide (x9_1 < (l1.length : Int)) = true := decide_eq_true c6
       clear c6
       replace H := Option.bind_eq_some_iff.mp H
       obtain ⟨t103, A70, H⟩ := H
       replace H : (if t103 = true then (dft_Good.l0 k1 l0 l1 (l1.length : Int) (wrap64 (x9_1 + 1))) else (some false)) = some r := H
       have A7 := Aside0.mk A70
       clear A70
       by_cases c8 : t103 = true
       ·subst c8
        have H1 : (dft_Good.l0 k1 l0 l1 (l1.length : Int) (wrap64 (x9_1 + 1))) = some r := by rw [if_pos rfl] at H <;> exact H
        clear H
        have H := H1
        clear H1
        have H' := Aside0.mk H
        clear H
        have p102 : 0 ≤ (x9_1 : Int) := of_decide_eq_true (by first | (with_reducible assumption) | assumption)
        have q102 : x9_1 < (l1.length : Int) := of_decide_eq_true (by first | (with_reducible assumption) | assumption)
        obtain ⟨ad102, e102, hx102_0⟩ := Kd.at_int HR1.out x9_1 p102 q102
        cases e102
        replace p102 := eq_true p102
        replace q102 := eq_true q102
        go_wp2_with (first | ((with_reducible refine gate_callee (f := 26) rfl ?_); refine goesL_ (some 15) rfl rfl Try.func26 (by kernel_rfl) rfl #[toPtr (.slice A0 l0.length c0), .int .u64 (rd l1 x9_1)] rfl (by (try simp only [List.map_toArray, List.map_cons, List.map_nil]); first | done | (rw [hT_HR0] <;> rfl) | rfl | (simp only [List.length_drop, List.length_take]; rfl)) ?_; (try rw [← hT_HR0]); (with_reducible refine (field_Field_Good.calls _ _ l0 (rd l1 x9_1) true _ ?side1 ?side2 A7.out).mono ?_); (case side1 => repeat (first | exact HR0.out | (with_reducible refine Kd.C_alloc ?_ _) | (with_reducible refine Kd.C_drewN ?_ _) | (with_reducible refine Kd.C_drew ?_))); (case side2 => exact HC0.out); rintro e w' ⟨rfl, ⟨nd, rfl⟩⟩; refine ⟨_, rfl, ?_⟩))
        go_roundg k1
        case measure => have := HK1.out; omega
        case rel => exact ⟨(wrap64 (x9_1 + 1)), (by first | rfl | (simp; done) | (simp [*]; done)), H', ⟨by have := HK1.out; omega⟩, by repeat (first | exact Drawn0.refl _ | apply Drawn0.step)⟩
       ·replace c8 := Bool.eq_false_iff.mpr c8
        subst c8
        have H1 : (some false) = some r := by rw [if_neg (show ¬ (false = true) by decide)] at H <;> exact H
        clear H
        have H := H1
        clear H1
        obtain rfl := Option.some.inj H
        have p102 : 0 ≤ (x9_1 : Int) := of_decide_eq_true (by first | (with_reducible assumption) | assumption)
        have q102 : x9_1 < (l1.length : Int) := of_decide_eq_true (by first | (with_reducible assumption) | assumption)
        obtain ⟨ad102, e102, hx102_0⟩ := Kd.at_int HR1.out x9_1 p102 q102
        cases e102
        replace p102 := eq_true p102
        replace q102 := eq_true q102
        go_wp2_with (first | ((with_reducible refine gate_callee (f := 26) rfl ?_); refine goesL_ (some 15) rfl rfl Try.func26 (by kernel_rfl) rfl #[toPtr (.slice A0 l0.length c0), .int .u64 (rd l1 x9_1)] rfl (by (try simp only [List.map_toArray, List.map_cons, List.map_nil]); first | done | (rw [hT_HR0] <;> rfl) | rfl | (simp only [List.length_drop, List.length_take]; rfl)) ?_; (try rw [← hT_HR0]); (with_reducible refine (field_Field_Good.calls _ _ l0 (rd l1 x9_1) false _ ?side1 ?side2 A7.out).mono ?_); (case side1 => repeat (first | exact HR0.out | (with_reducible refine Kd.C_alloc ?_ _) | (with_reducible refine Kd.C_drewN ?_ _) | (with_reducible refine Kd.C_drew ?_))); (case side2 => exact HC0.out); rintro e w' ⟨rfl, ⟨nd, rfl⟩⟩; refine ⟨_, rfl, ?_⟩))
        go_ret
        exact ⟨by first | rfl | (simp; done) | (simp [*]; done), by repeat (first | exact Drawn0.refl _ | apply Drawn0.step)⟩
      ·rw [if_neg c6] at H
       exact absurd H (by simp)
     ·rw [if_neg c5] at H
      exact absurd H (by simp)
    ·rw [if_neg c4] at H
     have c4b0 : decide (x9_1 < (l1.length : Int)) = false := decide_eq_false c4
     clear c4
     by_cases c9 : (l0.length : Int) = 0
     ·rw [if_pos c9] at H
      have c9b0 : ((l0.length : Int) == 0) = true := beq_iff_eq.mpr c9
      have c9b1 : ((l0.length : Int) != 0) = false := bne_eq_false_iff_eq.mpr c9
      have hT_HR0 := pf_none A0 c0 (show l0.length = 0 by omega)
      (try rw [hT_HR0])
      clear c9
      obtain rfl := Option.some.inj H
      go_wp2
      go_ret
      exact ⟨by first | rfl | (simp; done) | (simp [*]; done), by repeat (first | exact Drawn0.refl _ | apply Drawn0.step)⟩
     ·rw [if_neg c9] at H
      have c9b0 : ((l0.length : Int) == 0) = false := beq_eq_false_iff_ne.mpr c9
      have c9b1 : ((l0.length : Int) != 0) = true := bne_iff_ne.mpr c9
      have c9b2 : ¬ (l0 = []) := fun h_ => c9 (by rw [h_]; rfl)
      obtain ⟨_, hq_⟩ := pf_some A0 c0 (show ¬ (l0.length = 0) by omega)
      exact absurd (hT_HR0.symm.trans hq_) (by simp)
 ·rw [if_neg c3] at H
  have c3b0 : ((l0.length : Int) == 0) = false := beq_eq_false_iff_ne.mpr c3
  have c3b1 : ((l0.length : Int) != 0) = true := bne_iff_ne.mpr c3
  have c3b2 : ¬ (l0 = []) := fun h_ => c3 (by rw [h_]; rfl)
  obtain ⟨aT_HR0, hT_HR0⟩ := pf_some A0 c0 (show ¬ (l0.length = 0) by omega)
  (try rw [hT_HR0])
  have H' := Aside0.mk H
  clear H
  go_enter Try.func13, Try.ntmps13
  go_wp2
  go_loopg [9] k (fun kq v9 w' => ∃ (x9_1 : Int), v9 = .int .i64 x9_1 ∧ Aside0 (dft_Good.l0 kq l0 l1 (l1.length : Int) x9_1 = some r) ∧ Aside0 (kq ≤ k) ∧ Drawn0 w w')
  case atStart => exact ⟨(0), (by first | rfl | (simp; done) | (simp [*]; done)), H', ⟨Nat.le_refl _⟩, by repeat (first | exact Drawn0.refl _ | apply Drawn0.step)⟩
  case round =>
   clear H'
   try clear c1
   try clear p1
   try clear q1
   try clear hx1
   try clear c2
   try clear p2
   try clear c3
   try clear c3b0
   try clear c3b1
   try clear c3b2
   try clear c4
   try clear c4b0
   try clear c5
   try clear c5b0
   try clear c6
   try clear c6b0
   try clear p6
   try clear c8
   try clear c9
   try clear c9b0
   try clear c9b1
   try clear c9b2
   try clear hx102_0
   try clear p102
   try clear p2
   try clear q102
   obtain ⟨x9_1, rfl, HA, HK1, ⟨m1, rfl⟩⟩ := hrel
   cases gk with
   | zero => exact absurd HA.out (by simp [dft_Good.l0])
   | succ k1 =>
    have H := HA.out
    clear HA
    simp only [dft_Good.l0] at H
    by_cases c10 : x9_1 < (l1.length : Int)
    ·rw [if_pos c10] at H
     have c10b0 : decide (x9_1 < (l1.length : Int)) = true := decide_eq_true c10
     clear c10
     by_cases c11 : 0 ≤ x9_1
     ·rw [if_pos c11] at H
      have c11b0 : decide (0 ≤ x9_1) = true := decide_eq_true c11
      clear c11
      by_cases c12 : x9_1 < (l1.length : Int)
      ·rw [if_pos c12] at H
       have c12b0 : decide (x9_1 < (l1.length : Int)) = true := decide_eq_true c12
       clear c12
       replace H := Option.bind_eq_some_iff.mp H
       obtain ⟨t103, A130, H⟩ := H
       replace H : (if t103 = true then (dft_Good.l0 k1 l0 l1 (l1.length : Int) (wrap64 (x9_1 + 1))) else (some false)) = some r := H
       have A13 := Aside0.mk A130
       clear A130
       by_cases c14 : t103 = true
       ·subst c14
        have H1 : (dft_Good.l0 k1 l0 l1 (l1.length : Int) (wrap64 (x9_1 + 1))) = some r := by rw [if_pos rfl] at H <;> exact H
        clear H
        have H := H1
        clear H1
        have H' := Aside0.mk H
        clear H
        have p102 : 0 ≤ (x9_1 : Int) := of_decide_eq_true (by first | (with_reducible assumption) | assumption)
        have q102 : x9_1 < (l1.length : Int) := of_decide_eq_true (by first | (with_reducible assumption) | assumption)
        obtain ⟨ad102, e102, hx102_0⟩ := Kd.at_int HR1.out x9_1 p102 q102
        cases e102
        replace p102 := eq_true p102
        replace q102 := eq_true q102
        go_wp2_with (first | ((with_reducible refine gate_callee (f := 26) rfl ?_); refine goesL_ (some 15) rfl rfl Try.func26 (by kernel_rfl) rfl #[toPtr (.slice A0 l0.length c0), .int .u64 (rd l1 x9_1)] rfl (by (try simp only [List.map_toArray, List.map_cons, List.map_nil]); first | done | (rw [hT_HR0] <;> rfl) | rfl | (simp only [List.length_drop, List.length_take]; rfl)) ?_; (try rw [← hT_HR0]); (with_reducible refine (field_Field_Good.calls _ _ l0 (rd l1 x9_1) true _ ?side1 ?side2 A13.out).mono ?_); (case side1 => repeat (first | exact HR0.out | (with_reducible refine Kd.C_alloc ?_ _) | (with_reducible refine Kd.C_drewN ?_ _) | (with_reducible refine Kd.C_drew ?_))); (case side2 => exact HC0.out); rintro e w' ⟨rfl, ⟨nd, rfl⟩⟩; refine ⟨_, rfl, ?_⟩))
        go_roundg k1
        case measure => have := HK1.out; omega
        case rel => exact ⟨(wrap64 (x9_1 + 1)), (by first | rfl | (simp; done) | (simp [*]; done)), H', ⟨by have := HK1.out; omega⟩, by repeat (first | exact Drawn0.refl _ | apply Drawn0.step)⟩
       ·replace c14 := Bool.eq_false_iff.mpr c14
        subst c14
        have H1 : (some false) = some r := by rw [if_neg (show ¬ (false = true) by decide)] at H <;> exact H
        clear H
        have H := H1
        clear H1
        obtain rfl := Option.some.inj H
        have p102 : 0 ≤ (x9_1 : Int) := of_decide_eq_true (by first | (with_reducible assumption) | assumption)
        have q102 : x9_1 < (l1.length : Int) := of_decide_eq_true (by first | (with_reducible assumption) | assumption)
        obtain ⟨ad102, e102, hx102_0⟩ := Kd.at_int HR1.out x9_1 p102 q102
        cases e102
        replace p102 := eq_true p102
        replace q102 := eq_true q102
        go_wp2_with (first | ((with_reducible refine gate_callee (f := 26) rfl ?_); refine goesL_ (some 15) rfl rfl Try.func26 (by kernel_rfl) rfl #[toPtr (.slice A0 l0.length c0), .int .u64 (rd l1 x9_1)] rfl (by (try simp only [List.map_toArray, List.map_cons, List.map_nil]); first | done | (rw [hT_HR0] <;> rfl) | rfl | (simp only [List.length_drop, List.length_take]; rfl)) ?_; (try rw [← hT_HR0]); (with_reducible refine (field_Field_Good.calls _ _ l0 (rd l1 x9_1) false _ ?side1 ?side2 A13.out).mono ?_); (case side1 => repeat (first | exact HR0.out | (with_reducible refine Kd.C_alloc ?_ _) | (with_reducible refine Kd.C_drewN ?_ _) | (with_reducible refine Kd.C_drew ?_))); (case side2 => exact HC0.out); rintro e w' ⟨rfl, ⟨nd, rfl⟩⟩; refine ⟨_, rfl, ?_⟩))
        go_ret
        exact ⟨by first | rfl | (simp; done) | (simp [*]; done), by repeat (first | exact Drawn0.refl _ | apply Drawn0.step)⟩
      ·rw [if_neg c12] at H
       exact absurd H (by simp)
     ·rw [if_neg c11] at H
      exact absurd H (by simp)
    ·rw [if_neg c10] at H
     have c10b0 : decide (x9_1 < (l1.length : Int)) = false := decide_eq_false c10
     clear c10
     by_cases c15 : (l0.length : Int) = 0
     ·rw [if_pos c15] at H
      have c15b0 : ((l0.length : Int) == 0) = true := beq_iff_eq.mpr c15
      have c15b1 : ((l0.length : Int) != 0) = false := bne_eq_false_iff_eq.mpr c15
      have hq_ := pf_none A0 c0 (show l0.length = 0 by omega)
      exact absurd (hT_HR0.symm.trans hq_) (by simp)
     ·rw [if_neg c15] at H
      have c15b0 : ((l0.length : Int) == 0) = false := beq_eq_false_iff_ne.mpr c15
      have c15b1 : ((l0.length : Int) != 0) = true := bne_iff_ne.mpr c15
      have c15b2 : ¬ (l0 = []) := fun h_ => c15 (by rw [h_]; rfl)
      obtain ⟨aT_HR0, hT_HR0⟩ := pf_some A0 c0 (show ¬ (l0.length = 0) by omega)
      (try rw [hT_HR0])
      obtain rfl := Option.some.inj H
      go_wp2
      go_ret
      exact ⟨by first | rfl | (simp; done) | (simp [*]; done), by repeat (first | exact Drawn0.refl _ | apply Drawn0.step)⟩
noncomputable def dft_Scale.l0 : Nat → List (Fld) → Int → List Int → List Int → Int → Int → Option (List Int)
 | 0, _, _, _, _, _, _ => none
 | k + 1, x0, x5, x6, x19, x20, x21 => if x21 < x20 then (if 0 ≤ x21 then (if x21 < (x19.length : Int) then ((field_Field_Times.f x0 x5 (rd x19 x21)).bind fun t110 => (if x21 < (x6.length : Int) then (dft_Scale.l0 k x0 x5 (x6.set (x21 : Int).toNat t110) x19 x20 (wrap64 (x21 + 1))) else (none))) else (none)) else (none)) else (some x6)
noncomputable def dft_Scale.f (k : Nat) (l0 : List (Fld)) (l1 : List Int) : Option (List Int) := (field_Field_Inv.f l0 (IntKind.u64.wrap ((l1.length : Int)))).bind fun t104 => ((field_Field_Lift.f l0 t104).bind fun t105 => (if 0 ≤ (l1.length : Int) then (if ((l1.length : Int) : Int).toNat ≤ 35184372088832 then (dft_Scale.l0 k l0 t105 (List.replicate ((l1.length : Int) : Int).toNat 0) l1 (l1.length : Int) 0) else (none)) else (none)))
theorem dft_Scale.mono_l : ∀ k, (∀ y0 y1 y2 y3 y4 y5, LeO (dft_Scale.l0 k y0 y1 y2 y3 y4 y5) (dft_Scale.l0 (k + 1) y0 y1 y2 y3 y4 y5))
 | 0 => fun _ _ _ _ _ _ r h => by simp [dft_Scale.l0] at h
 | k + 1 => by
  have ih0 := dft_Scale.mono_l k
  ·intro y0 y1 y2 y3 y4 y5
   unfold dft_Scale.l0
   repeat' first
   | (with_reducible exact ih0 _ _ _ _ _ _)
   | (with_reducible exact LeO.refl _)
   | (with_reducible exact LeO.none _)
   | (with_reducible refine LeO.ite ?_ ?_)
   | (with_reducible refine LeO.bind ?_ (fun _ => ?_))
   | exact ih0 _ _ _ _ _ _
   | exact LeO.none _
   | refine LeO.ite ?_ ?_
   | refine LeO.bind ?_ (fun _ => ?_)
theorem dft_Scale.mono : ∀ a0 a1 k, LeO (dft_Scale.f k a0 a1) (dft_Scale.f (k + 1) a0 a1) := by
 intro a0 a1 k
 have ih0 := dft_Scale.mono_l k
 unfold dft_Scale.f
 repeat' first
   | (with_reducible exact ih0 _ _ _ _ _ _)
   | (with_reducible exact LeO.refl _)
   | (with_reducible exact LeO.none _)
   | (with_reducible refine LeO.ite ?_ ?_)
   | (with_reducible refine LeO.bind ?_ (fun _ => ?_))
   | exact ih0 _ _ _ _ _ _
   | exact LeO.none _
   | refine LeO.ite ?_ ?_
   | refine LeO.bind ?_ (fun _ => ?_)
set_option maxHeartbeats 8000000 in
set_option maxRecDepth 100000 in
theorem dft_Scale.calls (k : Nat) (A0 : Option Addr) (c0 : Nat) (l0 : List (Fld)) (A1 : Option Addr) (c1 : Nat) (l1 : List Int) (r : List Int) (w : World) (hr0 : Kd.C kFld w A0 l0.length l0) (hc0 : l0.length ≤ c0) (hr1 : Kd.C (Kd.int .u64) w A1 l1.length l1) (hc1 : l1.length ≤ c1) (h : dft_Scale.f k l0 l1 = some r) :
  Calls Try.prog 17 #[toPtr (.slice A0 l0.length c0), .slice A1 l1.length c1] w fun e w' => ∃ v0_ : Value, e = .returned (v0_) ∧ Kd.R (Kd.int .u64) 31 w' w.heap.size (fun _ => True) v0_ r ∧ Below w.heap.size w w' := by
 have HR0 := Aside0.mk hr0
 have HC0 := Aside0.mk hc0
 clear hr0 hc0
 have HR1 := Aside0.mk hr1
 have HC1 := Aside0.mk hc1
 clear hr1 hc1
 have HB := Aside0.mk (Below.refl w.heap.size w)
 have H : ((field_Field_Inv.f l0 (IntKind.u64.wrap ((l1.length : Int)))).bind fun t104 => ((field_Field_Lift.f l0 t104).bind fun t105 => (if 0 ≤ (l1.length : Int) then (if ((l1.length : Int) : Int).toNat ≤ 35184372088832 then (dft_Scale.l0 k l0 t105 (List.replicate ((l1.length : Int) : Int).toNat 0) l1 (l1.length : Int) 0) else (none)) else (none)))) = some r := h
 clear h
 replace H := Option.bind_eq_some_iff.mp H
 obtain ⟨t104, A30, H⟩ := H
 replace H : ((field_Field_Lift.f l0 t104).bind fun t105 => (if 0 ≤ (l1.length : Int) then (if ((l1.length : Int) : Int).toNat ≤ 35184372088832 then (dft_Scale.l0 k l0 t105 (List.replicate ((l1.length : Int) : Int).toNat 0) l1 (l1.length : Int) 0) else (none)) else (none))) = some r := H
 have A3 := Aside0.mk A30
 clear A30
 replace H := Option.bind_eq_some_iff.mp H
 obtain ⟨t105, A40, H⟩ := H
 replace H : (if 0 ≤ (l1.length : Int) then (if ((l1.length : Int) : Int).toNat ≤ 35184372088832 then (dft_Scale.l0 k l0 t105 (List.replicate ((l1.length : Int) : Int).toNat 0) l1 (l1.length : Int) 0) else (none)) else (none)) = some r := H
 have A4 := Aside0.mk A40
 clear A40
 by_cases c5 : 0 ≤ (l1.length : Int)
 ·rw [if_pos c5] at H
  have c5b0 := eq_true c5
  have c5b1 : decide (0 ≤ (l1.length : Int)) = true := decide_eq_true c5
  clear c5
  by_cases c6 : ((l1.length : Int) : Int).toNat ≤ 35184372088832
  ·rw [if_pos c6] at H
   have c6b0 := eq_true c6
   have c6b1 : decide (((l1.length : Int) : Int).toNat ≤ 35184372088832) = true := decide_eq_true c6
   clear c6
   obtain ⟨y106, hy106⟩ : ∃ y_ : List Int, y_ = (List.replicate ((l1.length : Int) : Int).toNat 0) := ⟨_, rfl⟩
   replace H : (dft_Scale.l0 k l0 t105 y106 l1 (l1.length : Int) 0) = some r := by first | (rw [hy106]; with_reducible exact H) | (have H2_ := (Option.bind_some _ _).symm.trans H; rw [hy106]; with_reducible exact H2_) | (have H2_ := (Option.bind_some _ _).symm.trans H; with_reducible exact H2_) | with_reducible exact H | (rw [hy106]; exact H) | exact H
   have Ny106 := Aside0.mk hy106
   clear hy106
   have H' := Aside0.mk H
   clear H
   go_enter Try.func17, Try.ntmps17
   go_wp2_with (first | ((with_reducible refine gate_callee (f := 32) rfl ?_); refine goesL_ (some 14) rfl rfl Try.func32 (by kernel_rfl) rfl #[toPtr (.slice A0 l0.length c0), .int .u64 (IntKind.u64.wrap ((l1.length : Int)))] rfl (by (try simp only [List.map_toArray, List.map_cons, List.map_nil]); first | done | (rw [hT_HR0] <;> rfl) | rfl | (simp only [List.length_drop, List.length_take]; rfl)) ?_; (try rw [← hT_HR0]); (with_reducible refine (field_Field_Inv.calls _ _ l0 (IntKind.u64.wrap ((l1.length : Int))) t104 _ ?side1 ?side2 A3.out).mono ?_); (case side1 => repeat (first | exact HR0.out | (with_reducible refine Kd.C_alloc ?_ _) | (with_reducible refine Kd.C_drewN ?_ _) | (with_reducible refine Kd.C_drew ?_))); (case side2 => exact HC0.out); rintro e w' ⟨rfl, ⟨nd, rfl⟩⟩; refine ⟨_, rfl, ?_⟩) | ((with_reducible refine gate_callee (f := 28) rfl ?_); refine goesL_ (some 15) rfl rfl Try.func28 (by kernel_rfl) rfl #[toPtr (.slice A0 l0.length c0), .int .u64 t104] rfl (by (try simp only [List.map_toArray, List.map_cons, List.map_nil]); first | done | (rw [hT_HR0] <;> rfl) | rfl | (simp only [List.length_drop, List.length_take]; rfl)) ?_; (try rw [← hT_HR0]); (with_reducible refine (field_Field_Lift.calls _ _ l0 t104 t105 _ ?side1 ?side2 A4.out).mono ?_); (case side1 => repeat (first | exact HR0.out | (with_reducible refine Kd.C_alloc ?_ _) | (with_reducible refine Kd.C_drewN ?_ _) | (with_reducible refine Kd.C_drew ?_))); (case side2 => exact HC0.out); rintro e w' ⟨rfl, ⟨nd, rfl⟩⟩; refine ⟨_, rfl, ?_⟩) | ((with_reducible refine gate_dst (N := 18) rfl ?_); refine Kd.R_make (Kd.int .u64) _ 31 rfl (N := 18) rfl 32 _ _ rfl (l1.length : Int) rfl rfl Try.underlying32 (.int .u64 0) 8 info31 rfl (by decide) (by omega) 0 (ok := fun _ => True) (okp := fun _ => True) rfl (fun _ hk => hk) trivial (of_decide_eq_true (by first | (with_reducible assumption) | assumption)) (Nat.le_trans (Nat.mul_le_mul_right _ (of_decide_eq_true (by first | (with_reducible assumption) | assumption) : (l1.length : Int).toNat ≤ 35184372088832)) (by omega)) (Below.refl _ _) (Nat.le_refl _) ?_; intro v107 w7 ho8 hb hg_ hnew_; clear hg_ hnew_; (first | rw [← Ny106.out] at ho8 | (simp only [Int.reduceToNat] at ho8; rw [← Ny106.out] at ho8)); have n0_ := Aside0.mk (Kd.R_lower ho8 (below_size (by repeat (first | (with_reducible first | exact HB.out | apply below_alloc | apply pw_below_drewN | apply below_drew1) | exact HB.out)))); have n1_ := Aside0.mk (below_step (by repeat (first | (with_reducible first | exact HB.out | apply below_alloc | apply pw_below_drewN | apply below_drew1) | exact HB.out)) hb); clear HB; have HO108 := n0_; have HB := n1_; clear n0_ n1_; clear hb ho8))
   go_loopg [21] k (fun kq v21 w' => ∃ (x6_1 : List Int) (x21_1 : Int), v21 = .int .i64 x21_1 ∧ Aside0 (dft_Scale.l0 kq l0 t105 x6_1 l1 (l1.length : Int) x21_1 = some r) ∧ Aside0 (kq ≤ k) ∧ Aside0 (Kd.R (Kd.int .u64) 31 w' w.heap.size (fun _ => True) v107 x6_1) ∧ Aside0 (Below w.heap.size w w'))
   case atStart => exact ⟨(y106), (0), (by first | rfl | (simp; done) | (simp [*]; done)), H', ⟨Nat.le_refl _⟩, ⟨by (with_reducible repeat (first | apply Kd.R_alloc | apply Kd.R_drewN | apply Kd.R_drew)); exact HO108.out⟩, ⟨by repeat (first | (with_reducible first | exact HB.out | apply below_alloc | apply pw_below_drewN | apply below_drew1) | exact HB.out)⟩⟩
   case round =>
    clear H'
    try clear c1
    try clear c2
    try clear p2
    try clear c3
    try clear c5
    try clear c5b0
    try clear c5b1
    try clear c6
    try clear c6b0
    try clear c6b1
    obtain ⟨x6_1, x21_1, rfl, HA, HK1, HO_6, HB⟩ := hrel
    cases gk with
    | zero => exact absurd HA.out (by simp [dft_Scale.l0])
    | succ k1 =>
     have H := HA.out
     clear HA
     simp only [dft_Scale.l0] at H
     by_cases c9 : x21_1 < (l1.length : Int)
     ·rw [if_pos c9] at H
      have c9b0 : decide (x21_1 < (l1.length : Int)) = true := decide_eq_true c9
      clear c9
      by_cases c10 : 0 ≤ x21_1
      ·rw [if_pos c10] at H
       have c10b0 : decide (0 ≤ x21_1) = true := decide_eq_true c10
       clear c10
       by_cases c11 : x21_1 < (l1.length : Int)
       ·rw [if_pos c11] at H
        have c11b0 : decide (x21_1 < (l1.length : Int)) = true := decide_eq_true c11
        clear c11
        replace H := Option.bind_eq_some_iff.mp H
        obtain ⟨t110, A120, H⟩ := H
        replace H : (if x21_1 < (x6_1.length : Int) then (dft_Scale.l0 k1 l0 t105 (x6_1.set (x21_1 : Int).toNat t110) l1 (l1.length : Int) (wrap64 (x21_1 + 1))) else (none)) = some r := H
        have A12 := Aside0.mk A120
        clear A120
        by_cases c13 : x21_1 < (x6_1.length : Int)
        ·rw [if_pos c13] at H
         have c13b0 : decide (x21_1 < (x6_1.length : Int)) = true := decide_eq_true c13
         clear c13
         obtain ⟨y111, hy111⟩ : ∃ y_ : List Int, y_ = (x6_1.set (x21_1 : Int).toNat t110) := ⟨_, rfl⟩
         replace H : (dft_Scale.l0 k1 l0 t105 y111 l1 (l1.length : Int) (wrap64 (x21_1 + 1))) = some r := by first | (rw [hy111]; with_reducible exact H) | (have H2_ := (Option.bind_some _ _).symm.trans H; rw [hy111]; with_reducible exact H2_) | (have H2_ := (Option.bind_some _ _).symm.trans H; with_reducible exact H2_) | with_reducible exact H | (rw [hy111]; exact H) | exact H
         have Ny111 := Aside0.mk hy111
         clear hy111
         have H' := Aside0.mk H
         clear H
         have p109 : 0 ≤ (x21_1 : Int) := of_decide_eq_true (by first | (with_reducible assumption) | assumption)
         have q109 : x21_1 < (l1.length : Int) := of_decide_eq_true (by first | (with_reducible assumption) | assumption)
         obtain ⟨ad109, e109, hx109_0⟩ := Kd.at_int HR1.out x21_1 p109 q109
         cases e109
         replace hx109_0 := (HB.out.cell (World.block_lt_of_cell? w _ hx109_0)).trans hx109_0
         replace p109 := eq_true p109
         replace q109 := eq_true q109
         go_wp2_with (first | ((with_reducible refine gate_callee (f := 33) rfl ?_); refine goesL_ (some 31) rfl rfl Try.func33 (by kernel_rfl) rfl #[toPtr (.slice A0 l0.length c0), .int .u64 t105, .int .u64 (rd l1 x21_1)] rfl (by (try simp only [List.map_toArray, List.map_cons, List.map_nil]); first | done | (rw [hT_HR0] <;> rfl) | rfl | (simp only [List.length_drop, List.length_take]; rfl)) ?_; (try rw [← hT_HR0]); (with_reducible refine (field_Field_Times.calls _ _ l0 t105 (rd l1 x21_1) t110 _ ?side1 ?side2 A12.out).mono ?_); (case side1 => repeat (first | exact (Kd.C_below HR0.out HB.out) | (with_reducible refine Kd.C_alloc ?_ _) | (with_reducible refine Kd.C_drewN ?_ _) | (with_reducible refine Kd.C_drew ?_))); (case side2 => exact HC0.out); rintro e w' ⟨rfl, ⟨nd, rfl⟩⟩; refine ⟨_, rfl, ?_⟩; (try (rw [drewN_self wr]; generalize hq_ : World.drewN wr _ = wr; have n0_ : Aside0 (Kd.R (Kd.int .u64) 31 wr w.heap.size (fun _ => True) v107 x6_1) := ⟨by rw [← hq_]; exact (by (with_reducible repeat (first | apply Kd.R_alloc | apply Kd.R_drewN | apply Kd.R_drew)); exact HO_6.out)⟩; have n1_ : Aside0 (Below w.heap.size w wr) := ⟨by rw [← hq_]; exact (by repeat (first | (with_reducible first | exact HB.out | apply below_alloc | apply pw_below_drewN | apply below_drew1) | exact HB.out))⟩; clear HO_6 HB hq_; have HO_6 := n0_; have HB := n1_; clear n0_ n1_)); have p14 : 0 ≤ (x21_1 : Int) := of_decide_eq_true (by first | (with_reducible assumption) | assumption); have q14 : (x21_1 : Int) < ((x6_1.length : Int) : Int) := of_decide_eq_true (by first | (with_reducible assumption) | assumption); obtain ⟨go14, co14, eo14, gb14, gl14, cl14, HG14⟩ := Kd.R_form HO_6.out (by omega); (first | cases eo14 | (injection eo14 with ea_ en_ ec_; (first | subst ea_ | (injection ea_ with ea_; subst ea_)); subst ec_; clear en_)); have GB14 := Aside0.mk gb14; have GG14 := Aside0.mk HG14; clear gb14 gl14 HG14; obtain ⟨hx14_0, hf14_0⟩ := Kd.R_celln 0 HO_6.out (x21_1 : Int) p14 q14; replace p14 := eq_true p14; replace q14 := eq_true q14; obtain ⟨hy15_, hz15_⟩ := Kd.R_celln 0 HO_6.out (x21_1 : Int) (of_decide_eq_true (by first | (with_reducible assumption) | assumption)) (of_decide_eq_true (by first | (with_reducible assumption) | assumption)); have HP15 := Kd.R_putg HO_6.out (x21_1 : Int) t110) | ((with_reducible refine gate_store (t := 31) (p := 32) rfl ?_); refine store_event (t := 31) (p := 32) (v := ?vo_w16) (w1 := (wr.setCell ⟨go14, (x21_1 : Int).toNat, none⟩ (.int .u64 t110))) ?hg ?ho ?hn ?hr ?_; (case ho => rfl); (case hg => rfl); (case hn => rfl); (case hr => first | (go_simp; done) | (go_simp; rfl)); intro w16 hw; have hg : wr.grownBy w16 (some go14) := (by rw [hw]; exact HP15.2); have hp_ : Kd.R (Kd.int .u64) 31 w16 w.heap.size (fun _ => True) (.slice (some ⟨go14, 0, none⟩) x6_1.length co14) y111 := (by rw [hw, Ny111.out]; exact HP15.1); clear HP15; have n0_ := Aside0.mk (hp_); have n1_ := Aside0.mk ((by rw [hw]; exact below_set (HB.out) GB14.out : Below w.heap.size w w16)); clear HO_6; clear HB; have HO_6 := n0_; have HB := n1_; clear n0_ n1_; clear hg hw hp_))
         go_roundg k1
         case measure => have := HK1.out; omega
         case rel => exact ⟨(y111), (wrap64 (x21_1 + 1)), (by first | rfl | (simp; done) | (simp [*]; done)), H', ⟨by have := HK1.out; omega⟩, ⟨by (with_reducible repeat (first | apply Kd.R_alloc | apply Kd.R_drewN | apply Kd.R_drew)); exact HO_6.out⟩, ⟨by repeat (first | (with_reducible first | exact HB.out | apply below_alloc | apply pw_below_drewN | apply below_drew1) | exact HB.out)⟩⟩
        ·rw [if_neg c13] at H
         exact absurd H (by simp)
       ·rw [if_neg c11] at H
        exact absurd H (by simp)
      ·rw [if_neg c10] at H
       exact absurd H (by simp)
     ·rw [if_neg c9] at H
      have c9b0 : decide (x21_1 < (l1.length : Int)) = false := decide_eq_false c9
      clear c9
      obtain rfl := Option.some.inj H
      go_wp2
      go_ret
      exact ⟨_, by first | rfl | (simp [errW_none, errW_some] <;> rfl) | (simp [*, errW_none, errW_some] <;> rfl), by (with_reducible repeat (first | apply Kd.R_alloc | apply Kd.R_drewN | apply Kd.R_drew)); exact HO_6.out, by repeat (first | (with_reducible first | exact HB.out | apply below_alloc | apply pw_below_drewN | apply below_drew1) | exact HB.out)⟩
  ·rw [if_neg c6] at H
   exact absurd H (by simp)
 ·rw [if_neg c5] at H
  exact absurd H (by simp)
end Go.Proofs.Ytndkmnjbjlfeaaa.XG
end
section
namespace Go.Proofs.Ytndkmnjbjlfeaaa.XM
open Go.RowKit Go.Proofs.Ytndkmnjbjlfeaaa.Given Go.Proofs.Ytndkmnjbjlfeaaa.Row05 Go.Proofs.Ytndkmnjbjlfeaaa.XS Go.Proofs.Ytndkmnjbjlfeaaa.XT Go.Proofs.Ytndkmnjbjlfeaaa.XR Go.Proofs.Ytndkmnjbjlfeaaa.F06 Go.Proofs.Ytndkmnjbjlfeaaa.XK Go.Proofs.Ytndkmnjbjlfeaaa.XW Go.Proofs.Ytndkmnjbjlfeaaa.XG Go.Proofs.YtndkmnjbjlfeaaaW.PrintWords Go.Proofs.YtndkmnjbjlfeaaaW.PrintLast Go.Proofs.YtndkmnjbjlfeaaaW.PrintMore
attribute [local go_sem] max2_int min2_int max_two min_two max_three min_three max_four min_four   -- for this text's walks alone
set_option linter.unusedVariables false
set_option linter.unusedSimpArgs false
mutual
noncomputable def digits_Size.l0 : Nat → Int → Bool → List Int → Int → Int → Option (Int × Int)
 | 0, _, _, _, _, _ => none
 | k + 1, x4, x5, x11, x12, x13 => if x13 < x12 then (if 0 ≤ x13 then (if x13 < (x11.length : Int) then (if (rd x11 x13) < 2 then (some (0, 1)) else (if x5 = true then (digits_Size.j1 k x4 x5 (rd x11 x13) x11 x12 x13 true) else (if x4 = 0 then (none) else (digits_Size.j1 k x4 x5 (rd x11 x13) x11 x12 x13 (decide ((rd x11 x13) > (wrap64 (Int.tdiv (4096 : Int) x4)))))))) else (none)) else (none)) else (if x5 = true then (some (0, 13)) else (some (x4, 0)))
noncomputable def digits_Size.j1 : Nat → Int → Bool → Int → List Int → Int → Int → Bool → Option (Int × Int)
 | 0, _, _, _, _, _, _, _ => none
 | k + 1, x4, x5, x7, x11, x12, x13, x25 => if x25 = true then (digits_Size.l0 k x4 true x11 x12 (wrap64 (x13 + 1))) else (digits_Size.l0 k (wrap64 (x4 * x7)) x5 x11 x12 (wrap64 (x13 + 1)))
end
noncomputable def digits_Size.f (k : Nat) (l0 : List Int) : Option (Int × Int) := if (l0.length : Int) > 12 then (some (0, 1)) else (digits_Size.l0 k 1 false l0 (l0.length : Int) 0)
theorem digits_Size.mono_l : ∀ k, (∀ y0 y1 y2 y3 y4, LeO (digits_Size.l0 k y0 y1 y2 y3 y4) (digits_Size.l0 (k + 1) y0 y1 y2 y3 y4)) ∧ (∀ y0 y1 y2 y3 y4 y5 y6, LeO (digits_Size.j1 k y0 y1 y2 y3 y4 y5 y6) (digits_Size.j1 (k + 1) y0 y1 y2 y3 y4 y5 y6))
 | 0 => ⟨fun _ _ _ _ _ r h => by simp [digits_Size.l0] at h, fun _ _ _ _ _ _ _ r h => by simp [digits_Size.j1] at h⟩
 | k + 1 => by
  obtain ⟨ih0, ih1⟩ := digits_Size.mono_l k
  refine ⟨?_, ?_⟩
  ·intro y0 y1 y2 y3 y4
   unfold digits_Size.l0
   repeat' first
   | (with_reducible exact ih0 _ _ _ _ _)
   | (with_reducible exact ih1 _ _ _ _ _ _ _)
   | (with_reducible exact LeO.refl _)
   | (with_reducible exact LeO.none _)
   | (with_reducible refine LeO.ite ?_ ?_)
   | (with_reducible refine LeO.bind ?_ (fun _ => ?_))
   | exact ih0 _ _ _ _ _
   | exact ih1 _ _ _ _ _ _ _
   | exact LeO.none _
   | refine LeO.ite ?_ ?_
   | refine LeO.bind ?_ (fun _ => ?_)
  ·intro y0 y1 y2 y3 y4 y5 y6
   unfold digits_Size.j1
   repeat' first
   | (with_reducible exact ih0 _ _ _ _ _)
   | (with_reducible exact ih1 _ _ _ _ _ _ _)
   | (with_reducible exact LeO.refl _)
   | (with_reducible exact LeO.none _)
   | (with_reducible refine LeO.ite ?_ ?_)
   | (with_reducible refine LeO.bind ?_ (fun _ => ?_))
   | exact ih0 _ _ _ _ _
   | exact ih1 _ _ _ _ _ _ _
   | exact LeO.none _
   | refine LeO.ite ?_ ?_
   | refine LeO.bind ?_ (fun _ => ?_)
theorem digits_Size.mono : ∀ a0 k, LeO (digits_Size.f k a0) (digits_Size.f (k + 1) a0) := by
 intro a0 k
 obtain ⟨ih0, ih1⟩ := digits_Size.mono_l k
 unfold digits_Size.f
 repeat' first
   | (with_reducible exact ih0 _ _ _ _ _)
   | (with_reducible exact ih1 _ _ _ _ _ _ _)
   | (with_reducible exact LeO.refl _)
   | (with_reducible exact LeO.none _)
   | (with_reducible refine LeO.ite ?_ ?_)
   | (with_reducible refine LeO.bind ?_ (fun _ => ?_))
   | exact ih0 _ _ _ _ _
   | exact ih1 _ _ _ _ _ _ _
   | exact LeO.none _
   | refine LeO.ite ?_ ?_
   | refine LeO.bind ?_ (fun _ => ?_)
set_option maxHeartbeats 8000000 in
set_option maxRecDepth 100000 in
theorem digits_Size.calls (k : Nat) (A0 : Option Addr) (c0 : Nat) (l0 : List Int) (r1 : Int) (r2 : Int) (w : World) (hr0 : Kd.C (Kd.int .i64) w A0 l0.length l0) (hc0 : l0.length ≤ c0) (h : digits_Size.f k l0 = some (r1, r2)) :
  Calls Try.prog 29 #[.slice A0 l0.length c0] w fun e w' => e = .returned (.tuple #[.int .i64 r1, .int .i64 r2]) ∧ Drawn0 w w' := by
 have HR0 := Aside0.mk hr0
 have HC0 := Aside0.mk hc0
 clear hr0 hc0
 have H : (if (l0.length : Int) > 12 then (some (0, 1)) else (digits_Size.l0 k 1 false l0 (l0.length : Int) 0)) = some (r1, r2) := h
 clear h
 by_cases c2 : (l0.length : Int) > 12
 ·rw [if_pos c2] at H
  have c2b0 : decide (12 < (l0.length : Int)) = true := decide_eq_true c2
  have c2b1 : decide (12 < l0.length) = true := decide_eq_true (by omega)
  clear c2
  simp only [Option.some.injEq, Prod.mk.injEq] at H
  obtain ⟨rfl, rfl⟩ := H
  go_enter Try.func29, Try.ntmps29
  go_wp2
  go_ret2
  exact ⟨by first | rfl | (simp; done) | (simp [*]; done), by repeat (first | exact Drawn0.refl _ | apply Drawn0.step)⟩
 ·rw [if_neg c2] at H
  have c2b0 : decide (12 < (l0.length : Int)) = false := decide_eq_false c2
  have c2b1 : decide (12 < l0.length) = false := decide_eq_false (by omega)
  clear c2
  have H' := Aside0.mk H
  clear H
  go_enter Try.func29, Try.ntmps29
  go_wp2
  go_loopg [4, 5, 13] k (fun kq v4 v5 v13 w' => ∃ (x4_1 : Int) (x5_1 : Bool) (x13_1 : Int), v4 = .int .i64 x4_1 ∧ v5 = .bool x5_1 ∧ v13 = .int .i64 x13_1 ∧ Aside0 (digits_Size.l0 kq x4_1 x5_1 l0 (l0.length : Int) x13_1 = some (r1, r2)) ∧ Aside0 (kq ≤ k) ∧ Drawn0 w w')
  case atStart => exact ⟨(1), (false), (0), (by first | rfl | (simp; done) | (simp [*]; done)), (by first | rfl | (simp; done) | (simp [*]; done)), (by first | rfl | (simp; done) | (simp [*]; done)), H', ⟨Nat.le_refl _⟩, by repeat (first | exact Drawn0.refl _ | apply Drawn0.step)⟩
  case round =>
   clear H'
   try clear c2
   try clear c2b0
   try clear c2b1
   try clear p2
   obtain ⟨x4_1, x5_1, x13_1, rfl, rfl, rfl, HA, HK1, ⟨m1, rfl⟩⟩ := hrel
   cases gk with
   | zero => exact absurd HA.out (by simp [digits_Size.l0])
   | succ k1 =>
    have H := HA.out
    clear HA
    simp only [digits_Size.l0] at H
    by_cases c3 : x13_1 < (l0.length : Int)
    ·rw [if_pos c3] at H
     have c3b0 : decide (x13_1 < (l0.length : Int)) = true := decide_eq_true c3
     clear c3
     by_cases c4 : 0 ≤ x13_1
     ·rw [if_pos c4] at H
      have c4b0 : decide (0 ≤ x13_1) = true := decide_eq_true c4
      clear c4
      by_cases c5 : x13_1 < (l0.length : Int)
      ·rw [if_pos c5] at H
       have c5b0 : decide (x13_1 < (l0.length : Int)) = true := decide_eq_true c5
       clear c5
       by_cases c6 : (rd l0 x13_1) < 2
       ·rw [if_pos c6] at H
        have c6b0 : decide ((rd l0 x13_1) < 2) = true := decide_eq_true c6
        clear c6
        simp only [Option.some.injEq, Prod.mk.injEq] at H
        obtain ⟨rfl, rfl⟩ := H
        have p101 : 0 ≤ (x13_1 : Int) := of_decide_eq_true (by first | (with_reducible assumption) | assumption)
        have q101 : x13_1 < (l0.length : Int) := of_decide_eq_true (by first | (with_reducible assumption) | assumption)
        obtain ⟨ad101, e101, hx101_0⟩ := Kd.at_int HR0.out x13_1 p101 q101
        cases e101
        replace p101 := eq_true p101
        replace q101 := eq_true q101
        go_wp2
        go_ret2
        exact ⟨by first | rfl | (simp; done) | (simp [*]; done), by repeat (first | exact Drawn0.refl _ | apply Drawn0.step)⟩
       ·rw [if_neg c6] at H
        have c6b0 : decide ((rd l0 x13_1) < 2) = false := decide_eq_false c6
        clear c6
        have HC7 := Aside0.mk H
        clear H
        have p101 : 0 ≤ (x13_1 : Int) := of_decide_eq_true (by first | (with_reducible assumption) | assumption)
        have q101 : x13_1 < (l0.length : Int) := of_decide_eq_true (by first | (with_reducible assumption) | assumption)
        obtain ⟨ad101, e101, hx101_0⟩ := Kd.at_int HR0.out x13_1 p101 q101
        cases e101
        replace p101 := eq_true p101
        replace q101 := eq_true q101
        go_upto_region 9 with (fail)
        go_cut [25] (fun v25 wc => ∃ (kq : Nat) (x25_6 : Bool), v25 = .bool x25_6 ∧ Aside0 (digits_Size.j1 kq x4_1 x5_1 (rd l0 x13_1) l0 (l0.length : Int) x13_1 x25_6 = some (r1, r2)) ∧ Aside0 (kq ≤ k1) ∧ Drawn0 w wc)
        case first =>
         have H := HC7.out
         clear HC7
         by_cases c8 : x5_1 = true
         ·subst c8
          have H1 : (digits_Size.j1 k1 x4_1 true (rd l0 x13_1) l0 (l0.length : Int) x13_1 true) = some (r1, r2) := by rw [if_pos rfl] at H <;> exact H
          clear H
          have H := H1
          clear H1
          have H' := Aside0.mk H
          clear H
          go_wp2
          go_meet
          case rel => exact ⟨_, (true), (by first | rfl | (simp; done) | (simp [*]; done)), H', ⟨by have := HK1.out; first | omega | exact Nat.le_refl _⟩, by repeat (first | exact Drawn0.refl _ | apply Drawn0.step)⟩
         ·replace c8 := Bool.eq_false_iff.mpr c8
          subst c8
          have H1 : (if x4_1 = 0 then (none) else (digits_Size.j1 k1 x4_1 false (rd l0 x13_1) l0 (l0.length : Int) x13_1 (decide ((rd l0 x13_1) > (wrap64 (Int.tdiv (4096 : Int) x4_1)))))) = some (r1, r2) := by rw [if_neg (show ¬ (false = true) by decide)] at H <;> exact H
          clear H
          have H := H1
          clear H1
          by_cases c9 : x4_1 = 0
          ·rw [if_pos c9] at H
           exact absurd H (by simp)
          ·rw [if_neg c9] at H
           have c9b0 : (x4_1 == 0) = false := beq_eq_false_iff_ne.mpr c9
           have c9b1 : (x4_1 != 0) = true := bne_iff_ne.mpr c9
           (first | rw [c9b0] | (simp only [i64_w, i32_w]; rw [c9b0]) | skip)
           have H' := Aside0.mk H
           clear H
           go_wp2
           go_meet
           case rel => exact ⟨_, (decide ((rd l0 x13_1) > (wrap64 (Int.tdiv (4096 : Int) x4_1)))), (by first | rfl | (simp; done) | (simp [*]; done)), H', ⟨by have := HK1.out; first | omega | exact Nat.le_refl _⟩, by repeat (first | exact Drawn0.refl _ | apply Drawn0.step)⟩
        case rest =>
         clear HC7
         try clear p1
         try clear q1
         try clear hx1
         try clear c2
         try clear c2b0
         try clear c2b1
         try clear p2
         try clear c3
         try clear c3b0
         try clear c4
         try clear c4b0
         try clear c5
         try clear c5b0
         try clear c6
         try clear c6b0
         try clear p6
         try clear c8
         try clear c9
         try clear c9b0
         try clear c9b1
         try clear hx101_0
         try clear p101
         try clear p2
         try clear q101
         obtain ⟨kq, x25_6, rfl, HA, HJ6, ⟨mc6, rfl⟩⟩ := hcut
         cases kq with
         | zero => exact absurd HA.out (by simp [digits_Size.j1])
         | succ kj6 =>
          have H := HA.out
          clear HA
          simp only [digits_Size.j1] at H
          by_cases c10 : x25_6 = true
          ·subst c10
           have H1 : (digits_Size.l0 kj6 x4_1 true l0 (l0.length : Int) (wrap64 (x13_1 + 1))) = some (r1, r2) := by rw [if_pos rfl] at H <;> exact H
           clear H
           have H := H1
           clear H1
           have H' := Aside0.mk H
           clear H
           go_wp2
           go_roundg kj6
           case measure => have := HK1.out; have := HJ6.out; omega
           case rel => exact ⟨(x4_1), (true), (wrap64 (x13_1 + 1)), (by first | rfl | (simp; done) | (simp [*]; done)), (by first | rfl | (simp; done) | (simp [*]; done)), (by first | rfl | (simp; done) | (simp [*]; done)), H', ⟨by have := HK1.out; have := HJ6.out; omega⟩, by repeat (first | exact Drawn0.refl _ | apply Drawn0.step)⟩
          ·replace c10 := Bool.eq_false_iff.mpr c10
           subst c10
           have H1 : (digits_Size.l0 kj6 (wrap64 (x4_1 * (rd l0 x13_1))) x5_1 l0 (l0.length : Int) (wrap64 (x13_1 + 1))) = some (r1, r2) := by rw [if_neg (show ¬ (false = true) by decide)] at H <;> exact H
           clear H
           have H := H1
           clear H1
           have H' := Aside0.mk H
           clear H
           go_wp2
           go_roundg kj6
           case measure => have := HK1.out; have := HJ6.out; omega
           case rel => exact ⟨(wrap64 (x4_1 * (rd l0 x13_1))), (x5_1), (wrap64 (x13_1 + 1)), (by first | rfl | (simp; done) | (simp [*]; done)), (by first | rfl | (simp; done) | (simp [*]; done)), (by first | rfl | (simp; done) | (simp [*]; done)), H', ⟨by have := HK1.out; have := HJ6.out; omega⟩, by repeat (first | exact Drawn0.refl _ | apply Drawn0.step)⟩
      ·rw [if_neg c5] at H
       exact absurd H (by simp)
     ·rw [if_neg c4] at H
      exact absurd H (by simp)
    ·rw [if_neg c3] at H
     have c3b0 : decide (x13_1 < (l0.length : Int)) = false := decide_eq_false c3
     clear c3
     by_cases c11 : x5_1 = true
     ·subst c11
      have H1 : (some (0, 13)) = some (r1, r2) := by rw [if_pos rfl] at H <;> exact H
      clear H
      have H := H1
      clear H1
      simp only [Option.some.injEq, Prod.mk.injEq] at H
      obtain ⟨rfl, rfl⟩ := H
      go_wp2
      go_ret2
      exact ⟨by first | rfl | (simp; done) | (simp [*]; done), by repeat (first | exact Drawn0.refl _ | apply Drawn0.step)⟩
     ·replace c11 := Bool.eq_false_iff.mpr c11
      subst c11
      have H1 : (some (x4_1, 0)) = some (r1, r2) := by rw [if_neg (show ¬ (false = true) by decide)] at H <;> exact H
      clear H
      have H := H1
      clear H1
      simp only [Option.some.injEq, Prod.mk.injEq] at H
      obtain ⟨rfl, rfl⟩ := H
      go_wp2
      go_ret2
      exact ⟨by first | rfl | (simp; done) | (simp [*]; done), by repeat (first | exact Drawn0.refl _ | apply Drawn0.step)⟩
noncomputable def digits_turn.l0 : Nat → Int → Int → List Int → Int → Int → Option (Int)
 | 0, _, _, _, _, _ => none
 | k + 1, x1, x5, x8, x9, x10 => if x10 < x9 then (if 0 ≤ x10 then (if x10 < (x8.length : Int) then (if (rd x8 x10) = 0 then (none) else (digits_turn.l0 k (wrap64 (Int.tdiv x1 (rd x8 x10))) (wrap64 ((wrap64 (x5 * (rd x8 x10))) + (Int.tmod x1 (rd x8 x10)))) x8 x9 (wrap64 (x10 + 1)))) else (none)) else (none)) else (some x5)
noncomputable def digits_turn.f (k : Nat) (l0 : List Int) (a1 : Int) : Option (Int) := digits_turn.l0 k a1 0 l0 (l0.length : Int) 0
theorem digits_turn.mono_l : ∀ k, (∀ y0 y1 y2 y3 y4, LeO (digits_turn.l0 k y0 y1 y2 y3 y4) (digits_turn.l0 (k + 1) y0 y1 y2 y3 y4))
 | 0 => fun _ _ _ _ _ r h => by simp [digits_turn.l0] at h
 | k + 1 => by
  have ih0 := digits_turn.mono_l k
  ·intro y0 y1 y2 y3 y4
   unfold digits_turn.l0
   repeat' first
   | (with_reducible exact ih0 _ _ _ _ _)
   | (with_reducible exact LeO.refl _)
   | (with_reducible exact LeO.none _)
   | (with_reducible refine LeO.ite ?_ ?_)
   | (with_reducible refine LeO.bind ?_ (fun _ => ?_))
   | exact ih0 _ _ _ _ _
   | exact LeO.none _
   | refine LeO.ite ?_ ?_
   | refine LeO.bind ?_ (fun _ => ?_)
theorem digits_turn.mono : ∀ a0 a1 k, LeO (digits_turn.f k a0 a1) (digits_turn.f (k + 1) a0 a1) := by
 intro a0 a1 k
 have ih0 := digits_turn.mono_l k
 unfold digits_turn.f
 repeat' first
   | (with_reducible exact ih0 _ _ _ _ _)
   | (with_reducible exact LeO.refl _)
   | (with_reducible exact LeO.none _)
   | (with_reducible refine LeO.ite ?_ ?_)
   | (with_reducible refine LeO.bind ?_ (fun _ => ?_))
   | exact ih0 _ _ _ _ _
   | exact LeO.none _
   | refine LeO.ite ?_ ?_
   | refine LeO.bind ?_ (fun _ => ?_)
set_option maxHeartbeats 8000000 in
set_option maxRecDepth 100000 in
theorem digits_turn.calls (k : Nat) (A0 : Option Addr) (c0 : Nat) (l0 : List Int) (a1 : Int) (r : Int) (w : World) (hr0 : Kd.C (Kd.int .i64) w A0 l0.length l0) (hc0 : l0.length ≤ c0) (h : digits_turn.f k l0 a1 = some r) :
  Calls Try.prog 30 #[.slice A0 l0.length c0, .int .i64 a1] w fun e w' => e = .returned (.int .i64 r) ∧ Drawn0 w w' := by
 have HR0 := Aside0.mk hr0
 have HC0 := Aside0.mk hc0
 clear hr0 hc0
 have H : (digits_turn.l0 k a1 0 l0 (l0.length : Int) 0) = some r := h
 clear h
 have H' := Aside0.mk H
 clear H
 go_enter Try.func30, Try.ntmps30
 go_wp2
 go_loopg [1, 5, 10] k (fun kq v1 v5 v10 w' => ∃ (x1_1 : Int) (x5_1 : Int) (x10_1 : Int), v1 = .int .i64 x1_1 ∧ v5 = .int .i64 x5_1 ∧ v10 = .int .i64 x10_1 ∧ Aside0 (digits_turn.l0 kq x1_1 x5_1 l0 (l0.length : Int) x10_1 = some r) ∧ Aside0 (kq ≤ k) ∧ Drawn0 w w')
 case atStart => exact ⟨(a1), (0), (0), (by first | rfl | (simp; done) | (simp [*]; done)), (by first | rfl | (simp; done) | (simp [*]; done)), (by first | rfl | (simp; done) | (simp [*]; done)), H', ⟨Nat.le_refl _⟩, by repeat (first | exact Drawn0.refl _ | apply Drawn0.step)⟩
 case round =>
  clear H'
  try clear p2
  obtain ⟨x1_1, x5_1, x10_1, rfl, rfl, rfl, HA, HK1, ⟨m1, rfl⟩⟩ := hrel
  cases gk with
  | zero => exact absurd HA.out (by simp [digits_turn.l0])
  | succ k1 =>
   have H := HA.out
   clear HA
   simp only [digits_turn.l0] at H
   by_cases c3 : x10_1 < (l0.length : Int)
   ·rw [if_pos c3] at H
    have c3b0 : decide (x10_1 < (l0.length : Int)) = true := decide_eq_true c3
    clear c3
    by_cases c4 : 0 ≤ x10_1
    ·rw [if_pos c4] at H
     have c4b0 : decide (0 ≤ x10_1) = true := decide_eq_true c4
     clear c4
     by_cases c5 : x10_1 < (l0.length : Int)
     ·rw [if_pos c5] at H
      have c5b0 : decide (x10_1 < (l0.length : Int)) = true := decide_eq_true c5
      clear c5
      by_cases c6 : (rd l0 x10_1) = 0
      ·rw [if_pos c6] at H
       exact absurd H (by simp)
      ·rw [if_neg c6] at H
       have c6b0 : ((rd l0 x10_1) == 0) = false := beq_eq_false_iff_ne.mpr c6
       have c6b1 : ((rd l0 x10_1) != 0) = true := bne_iff_ne.mpr c6
       have H' := Aside0.mk H
       clear H
       have p102 : 0 ≤ (x10_1 : Int) := of_decide_eq_true (by first | (with_reducible assumption) | assumption)
       have q102 : x10_1 < (l0.length : Int) := of_decide_eq_true (by first | (with_reducible assumption) | assumption)
       obtain ⟨ad102, e102, hx102_0⟩ := Kd.at_int HR0.out x10_1 p102 q102
       cases e102
       replace p102 := eq_true p102
       replace q102 := eq_true q102
       go_wp2
       go_roundg k1
       case measure => have := HK1.out; omega
       case rel => exact ⟨(wrap64 (Int.tdiv x1_1 (rd l0 x10_1))), (wrap64 ((wrap64 (x5_1 * (rd l0 x10_1))) + (Int.tmod x1_1 (rd l0 x10_1)))), (wrap64 (x10_1 + 1)), (by first | rfl | (simp; done) | (simp [*]; done)), (by first | rfl | (simp; done) | (simp [*]; done)), (by first | rfl | (simp; done) | (simp [*]; done)), H', ⟨by have := HK1.out; omega⟩, by repeat (first | exact Drawn0.refl _ | apply Drawn0.step)⟩
     ·rw [if_neg c5] at H
      exact absurd H (by simp)
    ·rw [if_neg c4] at H
     exact absurd H (by simp)
   ·rw [if_neg c3] at H
    have c3b0 : decide (x10_1 < (l0.length : Int)) = false := decide_eq_false c3
    clear c3
    obtain rfl := Option.some.inj H
    go_wp2
    go_ret
    exact ⟨by first | rfl | (simp; done) | (simp [*]; done), by repeat (first | exact Drawn0.refl _ | apply Drawn0.step)⟩
noncomputable def digits_Order.l0 : Nat → List Int → List Int → List Int → Int → Int → Option (List Int × Int)
 | 0, _, _, _, _, _ => none
 | k + 1, x1, x8, x25, x26, x27 => if x27 < x26 then (if 0 ≤ x27 then (if x27 < (x25.length : Int) then ((digits_turn.f k x1 x27).bind fun t109 => (if 0 ≤ t109 then (if t109 < (x8.length : Int) then (digits_Order.l0 k x1 (x8.set (t109 : Int).toNat (rd x25 x27)) x25 x26 (wrap64 (x27 + 1))) else (none)) else (none))) else (none)) else (none)) else (some (x8, 0))
noncomputable def digits_Order.f (k : Nat) (l0 : List Int) (l1 : List Int) : Option (List Int × Int) := (digits_Size.f k l1).bind fun bt103 => (if bt103.2 = 0 then (if (l0.length : Int) = bt103.1 then (if 0 ≤ bt103.1 then (if (bt103.1 : Int).toNat ≤ 35184372088832 then (digits_Order.l0 k l1 (List.replicate (bt103.1 : Int).toNat 0) l0 (l0.length : Int) 0) else (none)) else (none)) else (some (([] : List Int), 1))) else (some (([] : List Int), bt103.2)))
theorem digits_Order.mono_l : ∀ k, (∀ y0 y1 y2 y3 y4, LeO (digits_Order.l0 k y0 y1 y2 y3 y4) (digits_Order.l0 (k + 1) y0 y1 y2 y3 y4))
 | 0 => fun _ _ _ _ _ r h => by simp [digits_Order.l0] at h
 | k + 1 => by
  have ih0 := digits_Order.mono_l k
  ·intro y0 y1 y2 y3 y4
   unfold digits_Order.l0
   repeat' first
   | (with_reducible exact ih0 _ _ _ _ _)
   | (with_reducible exact digits_Size.mono _ _)
   | (with_reducible exact digits_turn.mono _ _ _)
   | (with_reducible exact LeO.refl _)
   | (with_reducible exact LeO.none _)
   | (with_reducible refine LeO.ite ?_ ?_)
   | (with_reducible refine LeO.bind ?_ (fun _ => ?_))
   | exact ih0 _ _ _ _ _
   | exact digits_Size.mono _ _
   | exact digits_turn.mono _ _ _
   | exact LeO.none _
   | refine LeO.ite ?_ ?_
   | refine LeO.bind ?_ (fun _ => ?_)
theorem digits_Order.mono : ∀ a0 a1 k, LeO (digits_Order.f k a0 a1) (digits_Order.f (k + 1) a0 a1) := by
 intro a0 a1 k
 have ih0 := digits_Order.mono_l k
 unfold digits_Order.f
 repeat' first
   | (with_reducible exact ih0 _ _ _ _ _)
   | (with_reducible exact digits_Size.mono _ _)
   | (with_reducible exact digits_turn.mono _ _ _)
   | (with_reducible exact LeO.refl _)
   | (with_reducible exact LeO.none _)
   | (with_reducible refine LeO.ite ?_ ?_)
   | (with_reducible refine LeO.bind ?_ (fun _ => ?_))
   | exact ih0 _ _ _ _ _
   | exact digits_Size.mono _ _
   | exact digits_turn.mono _ _ _
   | exact LeO.none _
   | refine LeO.ite ?_ ?_
   | refine LeO.bind ?_ (fun _ => ?_)
set_option maxHeartbeats 8000000 in
set_option maxRecDepth 100000 in
theorem digits_Order.calls (k : Nat) (A0 : Option Addr) (c0 : Nat) (l0 : List Int) (A1 : Option Addr) (c1 : Nat) (l1 : List Int) (r1 : List Int) (r2 : Int) (w : World) (hr0 : Kd.C (Kd.int .u64) w A0 l0.length l0) (hc0 : l0.length ≤ c0) (hr1 : Kd.C (Kd.int .i64) w A1 l1.length l1) (hc1 : l1.length ≤ c1) (h : digits_Order.f k l0 l1 = some (r1, r2)) :
  Calls Try.prog 15 #[.slice A0 l0.length c0, .slice A1 l1.length c1] w fun e w' => ∃ v0_ : Value, e = .returned (.tuple #[v0_, .int .i64 r2]) ∧ Kd.R (Kd.int .u64) 31 w' w.heap.size (fun _ => True) v0_ r1 ∧ Below w.heap.size w w' := by
 have HR0 := Aside0.mk hr0
 have HC0 := Aside0.mk hc0
 clear hr0 hc0
 have HR1 := Aside0.mk hr1
 have HC1 := Aside0.mk hc1
 clear hr1 hc1
 have HB := Aside0.mk (Below.refl w.heap.size w)
 have H : ((digits_Size.f k l1).bind fun bt103 => (if bt103.2 = 0 then (if (l0.length : Int) = bt103.1 then (if 0 ≤ bt103.1 then (if (bt103.1 : Int).toNat ≤ 35184372088832 then (digits_Order.l0 k l1 (List.replicate (bt103.1 : Int).toNat 0) l0 (l0.length : Int) 0) else (none)) else (none)) else (some (([] : List Int), 1))) else (some (([] : List Int), bt103.2)))) = some (r1, r2) := h
 clear h
 replace H := Option.bind_eq_some_iff.mp H
 obtain ⟨⟨t103, t104⟩, A30, H⟩ := H
 replace H : (if t104 = 0 then (if (l0.length : Int) = t103 then (if 0 ≤ t103 then (if (t103 : Int).toNat ≤ 35184372088832 then (digits_Order.l0 k l1 (List.replicate (t103 : Int).toNat 0) l0 (l0.length : Int) 0) else (none)) else (none)) else (some (([] : List Int), 1))) else (some (([] : List Int), t104))) = some (r1, r2) := H
 have A3 := Aside0.mk A30
 clear A30
 by_cases c4 : t104 = 0
 ·rw [if_pos c4] at H
  have c4b0 : (t104 == 0) = true := beq_iff_eq.mpr c4
  have c4b1 : (t104 != 0) = false := bne_eq_false_iff_eq.mpr c4
  clear c4
  by_cases c5 : (l0.length : Int) = t103
  ·rw [if_pos c5] at H
   have c5b0 : ((l0.length : Int) == t103) = true := beq_iff_eq.mpr c5
   have c5b1 : ((l0.length : Int) != t103) = false := bne_eq_false_iff_eq.mpr c5
   clear c5
   by_cases c6 : 0 ≤ t103
   ·rw [if_pos c6] at H
    have c6b0 := eq_true c6
    have c6b1 : decide (0 ≤ t103) = true := decide_eq_true c6
    clear c6
    by_cases c7 : (t103 : Int).toNat ≤ 35184372088832
    ·rw [if_pos c7] at H
     have c7b0 := eq_true c7
     have c7b1 : decide ((t103 : Int).toNat ≤ 35184372088832) = true := decide_eq_true c7
     clear c7
     obtain ⟨y105, hy105⟩ : ∃ y_ : List Int, y_ = (List.replicate (t103 : Int).toNat 0) := ⟨_, rfl⟩
     replace H : (digits_Order.l0 k l1 y105 l0 (l0.length : Int) 0) = some (r1, r2) := by first | (rw [hy105]; with_reducible exact H) | (have H2_ := (Option.bind_some _ _).symm.trans H; rw [hy105]; with_reducible exact H2_) | (have H2_ := (Option.bind_some _ _).symm.trans H; with_reducible exact H2_) | with_reducible exact H | (rw [hy105]; exact H) | exact H
     have Ny105 := Aside0.mk hy105
     clear hy105
     have H' := Aside0.mk H
     clear H
     go_enter Try.func15, Try.ntmps15
     go_wp2_with (first | ((with_reducible refine gate_callee (f := 29) rfl ?_); refine goesL_ (some 13) rfl rfl Try.func29 (by kernel_rfl) rfl #[.slice A1 l1.length c1] rfl (by (try simp only [List.map_toArray, List.map_cons, List.map_nil]); first | done | rfl | (simp only [List.length_drop, List.length_take]; rfl)) ?_; (with_reducible refine (digits_Size.calls k _ _ l1 t103 t104 _ ?side1 ?side2 A3.out).mono ?_); (case side1 => repeat (first | exact HR1.out | (with_reducible refine Kd.C_alloc ?_ _) | (with_reducible refine Kd.C_drewN ?_ _) | (with_reducible refine Kd.C_drew ?_))); (case side2 => exact HC1.out); rintro e w' ⟨rfl, ⟨nd, rfl⟩⟩; refine ⟨_, rfl, ?_⟩) | ((with_reducible refine gate_dst (N := 24) rfl ?_); refine Kd.R_make (Kd.int .u64) _ 31 rfl (N := 24) rfl 32 _ _ rfl t103 rfl rfl Try.underlying32 (.int .u64 0) 8 info31 rfl (by decide) (by omega) 0 (ok := fun _ => True) (okp := fun _ => True) rfl (fun _ hk => hk) trivial (of_decide_eq_true (by first | (with_reducible assumption) | assumption)) (Nat.le_trans (Nat.mul_le_mul_right _ (of_decide_eq_true (by first | (with_reducible assumption) | assumption) : t103.toNat ≤ 35184372088832)) (by omega)) (Below.refl _ _) (Nat.le_refl _) ?_; intro v106 w8 ho9 hb hg_ hnew_; clear hg_ hnew_; (first | rw [← Ny105.out] at ho9 | (simp only [Int.reduceToNat] at ho9; rw [← Ny105.out] at ho9)); have n0_ := Aside0.mk (Kd.R_lower ho9 (below_size (by repeat (first | (with_reducible first | exact HB.out | apply below_alloc | apply pw_below_drewN | apply below_drew1) | exact HB.out)))); have n1_ := Aside0.mk (below_step (by repeat (first | (with_reducible first | exact HB.out | apply below_alloc | apply pw_below_drewN | apply below_drew1) | exact HB.out)) hb); clear HB; have HO107 := n0_; have HB := n1_; clear n0_ n1_; clear hb ho9))
     go_loopg [27] k (fun kq v27 w' => ∃ (x8_1 : List Int) (x27_1 : Int), v27 = .int .i64 x27_1 ∧ Aside0 (digits_Order.l0 kq l1 x8_1 l0 (l0.length : Int) x27_1 = some (r1, r2)) ∧ Aside0 (kq ≤ k) ∧ Aside0 (Kd.R (Kd.int .u64) 31 w' w.heap.size (fun _ => True) v106 x8_1) ∧ Aside0 (Below w.heap.size w w'))
     case atStart => exact ⟨(y105), (0), (by first | rfl | (simp; done) | (simp [*]; done)), H', ⟨Nat.le_refl _⟩, ⟨by (with_reducible repeat (first | apply Kd.R_alloc | apply Kd.R_drewN | apply Kd.R_drew)); exact HO107.out⟩, ⟨by repeat (first | (with_reducible first | exact HB.out | apply below_alloc | apply pw_below_drewN | apply below_drew1) | exact HB.out)⟩⟩
     case round =>
      clear H'
      try clear c1
      try clear c2
      try clear p2
      try clear c4
      try clear c4b0
      try clear c4b1
      try clear c5
      try clear c5b0
      try clear c5b1
      try clear c6
      try clear c6b0
      try clear c6b1
      try clear c7
      try clear c7b0
      try clear c7b1
      obtain ⟨x8_1, x27_1, rfl, HA, HK1, HO_8, HB⟩ := hrel
      cases gk with
      | zero => exact absurd HA.out (by simp [digits_Order.l0])
      | succ k1 =>
       have H := HA.out
       clear HA
       simp only [digits_Order.l0] at H
       by_cases c10 : x27_1 < (l0.length : Int)
       ·rw [if_pos c10] at H
        have c10b0 : decide (x27_1 < (l0.length : Int)) = true := decide_eq_true c10
        clear c10
        by_cases c11 : 0 ≤ x27_1
        ·rw [if_pos c11] at H
         have c11b0 : decide (0 ≤ x27_1) = true := decide_eq_true c11
         clear c11
         by_cases c12 : x27_1 < (l0.length : Int)
         ·rw [if_pos c12] at H
          have c12b0 : decide (x27_1 < (l0.length : Int)) = true := decide_eq_true c12
          clear c12
          replace H := Option.bind_eq_some_iff.mp H
          obtain ⟨t109, A130, H⟩ := H
          replace H : (if 0 ≤ t109 then (if t109 < (x8_1.length : Int) then (digits_Order.l0 k1 l1 (x8_1.set (t109 : Int).toNat (rd l0 x27_1)) l0 (l0.length : Int) (wrap64 (x27_1 + 1))) else (none)) else (none)) = some (r1, r2) := H
          have A13 := Aside0.mk A130
          clear A130
          by_cases c14 : 0 ≤ t109
          ·rw [if_pos c14] at H
           have c14b0 : decide (0 ≤ t109) = true := decide_eq_true c14
           clear c14
           by_cases c15 : t109 < (x8_1.length : Int)
           ·rw [if_pos c15] at H
            have c15b0 : decide (t109 < (x8_1.length : Int)) = true := decide_eq_true c15
            clear c15
            obtain ⟨y110, hy110⟩ : ∃ y_ : List Int, y_ = (x8_1.set (t109 : Int).toNat (rd l0 x27_1)) := ⟨_, rfl⟩
            replace H : (digits_Order.l0 k1 l1 y110 l0 (l0.length : Int) (wrap64 (x27_1 + 1))) = some (r1, r2) := by first | (rw [hy110]; with_reducible exact H) | (have H2_ := (Option.bind_some _ _).symm.trans H; rw [hy110]; with_reducible exact H2_) | (have H2_ := (Option.bind_some _ _).symm.trans H; with_reducible exact H2_) | with_reducible exact H | (rw [hy110]; exact H) | exact H
            have Ny110 := Aside0.mk hy110
            clear hy110
            have H' := Aside0.mk H
            clear H
            have p108 : 0 ≤ (x27_1 : Int) := of_decide_eq_true (by first | (with_reducible assumption) | assumption)
            have q108 : x27_1 < (l0.length : Int) := of_decide_eq_true (by first | (with_reducible assumption) | assumption)
            obtain ⟨ad108, e108, hx108_0⟩ := Kd.at_int HR0.out x27_1 p108 q108
            cases e108
            replace hx108_0 := (HB.out.cell (World.block_lt_of_cell? w _ hx108_0)).trans hx108_0
            replace p108 := eq_true p108
            replace q108 := eq_true q108
            go_wp2_with (first | ((with_reducible refine gate_callee (f := 30) rfl ?_); refine goesL_ (some 35) rfl rfl Try.func30 (by kernel_rfl) rfl #[.slice A1 l1.length c1, .int .i64 x27_1] rfl (by (try simp only [List.map_toArray, List.map_cons, List.map_nil]); first | done | rfl | (simp only [List.length_drop, List.length_take]; rfl)) ?_; (with_reducible refine (digits_turn.calls k1 _ _ l1 x27_1 t109 _ ?side1 ?side2 A13.out).mono ?_); (case side1 => repeat (first | exact (Kd.C_below HR1.out HB.out) | (with_reducible refine Kd.C_alloc ?_ _) | (with_reducible refine Kd.C_drewN ?_ _) | (with_reducible refine Kd.C_drew ?_))); (case side2 => exact HC1.out); rintro e w' ⟨rfl, ⟨nd, rfl⟩⟩; refine ⟨_, rfl, ?_⟩; (try (rw [drewN_self wr]; generalize hq_ : World.drewN wr _ = wr; have n0_ : Aside0 (Kd.R (Kd.int .u64) 31 wr w.heap.size (fun _ => True) v106 x8_1) := ⟨by rw [← hq_]; exact (by (with_reducible repeat (first | apply Kd.R_alloc | apply Kd.R_drewN | apply Kd.R_drew)); exact HO_8.out)⟩; have n1_ : Aside0 (Below w.heap.size w wr) := ⟨by rw [← hq_]; exact (by repeat (first | (with_reducible first | exact HB.out | apply below_alloc | apply pw_below_drewN | apply below_drew1) | exact HB.out))⟩; clear HO_8 HB hq_; have HO_8 := n0_; have HB := n1_; clear n0_ n1_)); have p16 : 0 ≤ (t109 : Int) := of_decide_eq_true (by first | (with_reducible assumption) | assumption); have q16 : (t109 : Int) < ((x8_1.length : Int) : Int) := of_decide_eq_true (by first | (with_reducible assumption) | assumption); obtain ⟨go16, co16, eo16, gb16, gl16, cl16, HG16⟩ := Kd.R_form HO_8.out (by omega); (first | cases eo16 | (injection eo16 with ea_ en_ ec_; (first | subst ea_ | (injection ea_ with ea_; subst ea_)); subst ec_; clear en_)); have GB16 := Aside0.mk gb16; have GG16 := Aside0.mk HG16; clear gb16 gl16 HG16; obtain ⟨hx16_0, hf16_0⟩ := Kd.R_celln 0 HO_8.out (t109 : Int) p16 q16; replace p16 := eq_true p16; replace q16 := eq_true q16; obtain ⟨hy17_, hz17_⟩ := Kd.R_celln 0 HO_8.out (t109 : Int) (of_decide_eq_true (by first | (with_reducible assumption) | assumption)) (of_decide_eq_true (by first | (with_reducible assumption) | assumption)); have HP17 := Kd.R_putg HO_8.out (t109 : Int) (rd l0 x27_1)) | ((with_reducible refine gate_store (t := 31) (p := 37) rfl ?_); refine store_event (t := 31) (p := 37) (v := ?vo_w18) (w1 := (wr.setCell ⟨go16, (t109 : Int).toNat, none⟩ (.int .u64 (rd l0 x27_1)))) ?hg ?ho ?hn ?hr ?_; (case ho => rfl); (case hg => rfl); (case hn => rfl); (case hr => first | (go_simp; done) | (go_simp; rfl)); intro w18 hw; have hg : wr.grownBy w18 (some go16) := (by rw [hw]; exact HP17.2); have hp_ : Kd.R (Kd.int .u64) 31 w18 w.heap.size (fun _ => True) (.slice (some ⟨go16, 0, none⟩) x8_1.length co16) y110 := (by rw [hw, Ny110.out]; exact HP17.1); clear HP17; have n0_ := Aside0.mk (hp_); have n1_ := Aside0.mk ((by rw [hw]; exact below_set (HB.out) GB16.out : Below w.heap.size w w18)); clear HO_8; clear HB; have HO_8 := n0_; have HB := n1_; clear n0_ n1_; clear hg hw hp_))
            go_roundg k1
            case measure => have := HK1.out; omega
            case rel => exact ⟨(y110), (wrap64 (x27_1 + 1)), (by first | rfl | (simp; done) | (simp [*]; done)), H', ⟨by have := HK1.out; omega⟩, ⟨by (with_reducible repeat (first | apply Kd.R_alloc | apply Kd.R_drewN | apply Kd.R_drew)); exact HO_8.out⟩, ⟨by repeat (first | (with_reducible first | exact HB.out | apply below_alloc | apply pw_below_drewN | apply below_drew1) | exact HB.out)⟩⟩
           ·rw [if_neg c15] at H
            exact absurd H (by simp)
          ·rw [if_neg c14] at H
           exact absurd H (by simp)
         ·rw [if_neg c12] at H
          exact absurd H (by simp)
        ·rw [if_neg c11] at H
         exact absurd H (by simp)
       ·rw [if_neg c10] at H
        have c10b0 : decide (x27_1 < (l0.length : Int)) = false := decide_eq_false c10
        clear c10
        simp only [Option.some.injEq, Prod.mk.injEq] at H
        obtain ⟨rfl, rfl⟩ := H
        go_wp2
        go_ret2
        exact ⟨_, by first | rfl | (simp [errW_none, errW_some] <;> rfl) | (simp [*, errW_none, errW_some] <;> rfl), by (with_reducible repeat (first | apply Kd.R_alloc | apply Kd.R_drewN | apply Kd.R_drew)); exact HO_8.out, by repeat (first | (with_reducible first | exact HB.out | apply below_alloc | apply pw_below_drewN | apply below_drew1) | exact HB.out)⟩
    ·rw [if_neg c7] at H
     exact absurd H (by simp)
   ·rw [if_neg c6] at H
    exact absurd H (by simp)
  ·rw [if_neg c5] at H
   have c5b0 : ((l0.length : Int) == t103) = false := beq_eq_false_iff_ne.mpr c5
   have c5b1 : ((l0.length : Int) != t103) = true := bne_iff_ne.mpr c5
   simp only [Option.some.injEq, Prod.mk.injEq] at H
   obtain ⟨rfl, rfl⟩ := H
   go_enter Try.func15, Try.ntmps15
   go_wp2_with (first | ((with_reducible refine gate_callee (f := 29) rfl ?_); refine goesL_ (some 13) rfl rfl Try.func29 (by kernel_rfl) rfl #[.slice A1 l1.length c1] rfl (by (try simp only [List.map_toArray, List.map_cons, List.map_nil]); first | done | rfl | (simp only [List.length_drop, List.length_take]; rfl)) ?_; (with_reducible refine (digits_Size.calls k _ _ l1 t103 t104 _ ?side1 ?side2 A3.out).mono ?_); (case side1 => repeat (first | exact HR1.out | (with_reducible refine Kd.C_alloc ?_ _) | (with_reducible refine Kd.C_drewN ?_ _) | (with_reducible refine Kd.C_drew ?_))); (case side2 => exact HC1.out); rintro e w' ⟨rfl, ⟨nd, rfl⟩⟩; refine ⟨_, rfl, ?_⟩))
   go_ret2
   exact ⟨_, by first | rfl | (simp [errW_none, errW_some] <;> rfl) | (simp [*, errW_none, errW_some] <;> rfl), by first | exact Kd.R_nil _ _ _ _ _ | exact Kd.N_nil _ _ _ _ _ | exact Kd.V_nil _ _ _ _ _ | exact Kd.Q_nil _ _ _ _ _ | exact Kd.S_nil _ _ _ _ _, by repeat (first | (with_reducible first | exact HB.out | apply below_alloc | apply pw_below_drewN | apply below_drew1) | exact HB.out)⟩
 ·rw [if_neg c4] at H
  have c4b0 : (t104 == 0) = false := beq_eq_false_iff_ne.mpr c4
  have c4b1 : (t104 != 0) = true := bne_iff_ne.mpr c4
  simp only [Option.some.injEq, Prod.mk.injEq] at H
  obtain ⟨rfl, rfl⟩ := H
  go_enter Try.func15, Try.ntmps15
  go_wp2_with (first | ((with_reducible refine gate_callee (f := 29) rfl ?_); refine goesL_ (some 13) rfl rfl Try.func29 (by kernel_rfl) rfl #[.slice A1 l1.length c1] rfl (by (try simp only [List.map_toArray, List.map_cons, List.map_nil]); first | done | rfl | (simp only [List.length_drop, List.length_take]; rfl)) ?_; (with_reducible refine (digits_Size.calls k _ _ l1 t103 t104 _ ?side1 ?side2 A3.out).mono ?_); (case side1 => repeat (first | exact HR1.out | (with_reducible refine Kd.C_alloc ?_ _) | (with_reducible refine Kd.C_drewN ?_ _) | (with_reducible refine Kd.C_drew ?_))); (case side2 => exact HC1.out); rintro e w' ⟨rfl, ⟨nd, rfl⟩⟩; refine ⟨_, rfl, ?_⟩))
  go_ret2
  exact ⟨_, by first | rfl | (simp [errW_none, errW_some] <;> rfl) | (simp [*, errW_none, errW_some] <;> rfl), by first | exact Kd.R_nil _ _ _ _ _ | exact Kd.N_nil _ _ _ _ _ | exact Kd.V_nil _ _ _ _ _ | exact Kd.Q_nil _ _ _ _ _ | exact Kd.S_nil _ _ _ _ _, by repeat (first | (with_reducible first | exact HB.out | apply below_alloc | apply pw_below_drewN | apply below_drew1) | exact HB.out)⟩
noncomputable def mixed_stage_lift.f (l0_0 : List (Fld)) (l0_1 : List Int) (a0_2 : Int) (a0_3 : Int) (a1 : Int) : Option (Int) := if (wrap64 (a0_2 * a0_3)) = 0 then (none) else (if (l0_1.length : Int) = 0 then (none) else (if 0 ≤ (Int.tmod (wrap64 (a1 * (wrap64 (Int.tdiv (l0_1.length : Int) (wrap64 (a0_2 * a0_3)))))) (l0_1.length : Int)) then (if (Int.tmod (wrap64 (a1 * (wrap64 (Int.tdiv (l0_1.length : Int) (wrap64 (a0_2 * a0_3)))))) (l0_1.length : Int)) < (l0_1.length : Int) then (some (rd l0_1 (Int.tmod (wrap64 (a1 * (wrap64 (Int.tdiv (l0_1.length : Int) (wrap64 (a0_2 * a0_3)))))) (l0_1.length : Int)))) else (none)) else (none)))
set_option maxHeartbeats 8000000 in
set_option maxRecDepth 100000 in
theorem mixed_stage_lift.calls (A0_0 : Option Addr) (c0_0 : Nat) (l0_0 : List (Fld)) (A0_1 : Option Addr) (c0_1 : Nat) (l0_1 : List Int) (a0_2 : Int) (a0_3 : Int) (a1 : Int) (r : Int) (w : World) (hr0_0 : Kd.C kFld w A0_0 l0_0.length l0_0) (hc0_0 : l0_0.length ≤ c0_0) (hr0_1 : Kd.C (Kd.int .u64) w A0_1 l0_1.length l0_1) (hc0_1 : l0_1.length ≤ c0_1) (h : mixed_stage_lift.f l0_0 l0_1 a0_2 a0_3 a1 = some r) :
  Calls Try.prog 46 #[.agg #[toPtr (.slice A0_0 l0_0.length c0_0), .slice A0_1 l0_1.length c0_1, .int .i64 a0_2, .int .i64 a0_3], .int .i64 a1] w fun e w' => e = .returned (.int .u64 r) ∧ Below w.heap.size w w' := by
 have hu46 := Try.underlying46
 have HR0_0 := Aside0.mk hr0_0
 have HC0_0 := Aside0.mk hc0_0
 clear hr0_0 hc0_0
 have HR0_1 := Aside0.mk hr0_1
 have HC0_1 := Aside0.mk hc0_1
 clear hr0_1 hc0_1
 have HB := Aside0.mk (Below.refl w.heap.size w)
 have H : (if (wrap64 (a0_2 * a0_3)) = 0 then (none) else (if (l0_1.length : Int) = 0 then (none) else (if 0 ≤ (Int.tmod (wrap64 (a1 * (wrap64 (Int.tdiv (l0_1.length : Int) (wrap64 (a0_2 * a0_3)))))) (l0_1.length : Int)) then (if (Int.tmod (wrap64 (a1 * (wrap64 (Int.tdiv (l0_1.length : Int) (wrap64 (a0_2 * a0_3)))))) (l0_1.length : Int)) < (l0_1.length : Int) then (some (rd l0_1 (Int.tmod (wrap64 (a1 * (wrap64 (Int.tdiv (l0_1.length : Int) (wrap64 (a0_2 * a0_3)))))) (l0_1.length : Int)))) else (none)) else (none)))) = some r := h
 clear h
 by_cases c3 : (wrap64 (a0_2 * a0_3)) = 0
 ·rw [if_pos c3] at H
  exact absurd H (by simp)
 ·rw [if_neg c3] at H
  have c3b0 : ((wrap64 (a0_2 * a0_3)) == 0) = false := beq_eq_false_iff_ne.mpr c3
  have c3b1 : ((wrap64 (a0_2 * a0_3)) != 0) = true := bne_iff_ne.mpr c3
  by_cases c4 : (l0_1.length : Int) = 0
  ·rw [if_pos c4] at H
   exact absurd H (by simp)
  ·rw [if_neg c4] at H
   have c4b0 : ((l0_1.length : Int) == 0) = false := beq_eq_false_iff_ne.mpr c4
   have c4b1 : ((l0_1.length : Int) != 0) = true := bne_iff_ne.mpr c4
   have c4b2 : ¬ (l0_1 = []) := fun h_ => c4 (by rw [h_]; rfl)
   obtain ⟨ji5, hji5⟩ : ∃ j_ : Int, (Int.tmod (wrap64 (a1 * (wrap64 (Int.tdiv (l0_1.length : Int) (wrap64 (a0_2 * a0_3)))))) (l0_1.length : Int)) = j_ := ⟨_, rfl⟩
   replace H : (if 0 ≤ (ji5) then (if (ji5) < (l0_1.length : Int) then (some (rd l0_1 (ji5))) else (none)) else (none)) = some r := by first | (rw [hji5] at H <;> exact H) | (simp only [hji5] at H ⊢; exact H)
   (try have hji5q_ : (Int.tmod (wrap64 (a1 * (wrap64 ((l0_1.length : Int) / (wrap64 (a0_2 * a0_3)))))) (l0_1.length : Int)) = ji5 := by rw [← Int.tdiv_eq_ediv_of_nonneg (by omega)]; exact hji5)
   have hji5v : (Int.tmod (IntKind.i64.wrap (a1 * (IntKind.i64.wrap (Int.tdiv (l0_1.length : Int) (IntKind.i64.wrap (a0_2 * a0_3)))))) (l0_1.length : Int)) = ji5 := by simp only [i64_w]; exact hji5
   by_cases c6 : 0 ≤ (ji5)
   ·rw [if_pos c6] at H
    have c6b0 : decide (0 ≤ (ji5)) = true := decide_eq_true c6
    clear c6
    by_cases c7 : (ji5) < (l0_1.length : Int)
    ·rw [if_pos c7] at H
     have c7b0 : decide ((ji5) < (l0_1.length : Int)) = true := decide_eq_true c7
     clear c7
     obtain rfl := Option.some.inj H
     go_enter Try.func46, Try.ntmps46
     go_wp2_with (first | ((with_reducible refine gate_dst (N := 2) rfl ?_); refine box_event ?hg (N := 2) ?hd (cs := #[toPtr (.slice A0_0 l0_0.length c0_0), .slice A0_1 l0_1.length c0_1, .int .i64 a0_2, .int .i64 a0_3]) (t := 46) ?hr ?_; (case hd => rfl); (case hg => rfl); (case hr => first | (go_simp; done) | (go_simp; rfl)); intro gb111 hg w8 hbox hb; have n0_ := Aside0.mk (below_step (by repeat (first | (with_reducible first | exact HB.out | apply below_alloc | apply pw_below_drewN | apply below_drew1) | exact HB.out)) hb); have n1_ := Aside0.mk (hbox); have n2_ := Aside0.mk ((by rw [hg]; exact (below_size (by repeat (first | (with_reducible first | exact HB.out | apply below_alloc | apply pw_below_drewN | apply below_drew1) | exact HB.out))) : w.heap.size ≤ gb111)); have n3_ := Aside0.mk ((by rw [hg]; exact (below_size (by repeat (first | (with_reducible first | exact HB.out | apply below_alloc | apply pw_below_drewN | apply below_drew1) | exact HB.out))) : w.heap.size ≤ gb111)); clear HB; have HB := n0_; have BK111 := n1_; have GW111 := n2_; have GE111 := n3_; clear n0_ n1_ n2_ n3_; clear hb hbox hg; have hcz9_0 : w8.cell? ⟨gb111, 0, none⟩ = some (toPtr (.slice A0_0 l0_0.length c0_0)) := (blk_cell BK111.out 0).trans rfl; have hcz9_1 : w8.cell? ⟨gb111, 1, none⟩ = some (.slice A0_1 l0_1.length c0_1) := (blk_cell BK111.out 1).trans rfl; have hcz9_2 : w8.cell? ⟨gb111, 2, none⟩ = some (.int .i64 a0_2) := (blk_cell BK111.out 2).trans rfl; have hcz9_3 : w8.cell? ⟨gb111, 3, none⟩ = some (.int .i64 a0_3) := (blk_cell BK111.out 3).trans rfl; have hfz9_0 := blk_frozen BK111.out 0; have hfz9_1 := blk_frozen BK111.out 1; have hfz9_2 := blk_frozen BK111.out 2; have hfz9_3 := blk_frozen BK111.out 3; have p112 : 0 ≤ ((ji5) : Int) := of_decide_eq_true (by first | (with_reducible assumption) | assumption); have q112 : (ji5) < (l0_1.length : Int) := of_decide_eq_true (by first | (with_reducible assumption) | assumption); obtain ⟨ad112, e112, hx112_0⟩ := Kd.at_int HR0_1.out (ji5) p112 q112; cases e112; replace hx112_0 := (HB.out.cell (World.block_lt_of_cell? w _ hx112_0)).trans hx112_0; replace p112 := eq_true p112; replace q112 := eq_true q112))
     repeat (go_quiet (first | ((with_reducible refine gate_dst (N := 2) rfl ?_); refine box_event ?hg (N := 2) ?hd (cs := #[toPtr (.slice A0_0 l0_0.length c0_0), .slice A0_1 l0_1.length c0_1, .int .i64 a0_2, .int .i64 a0_3]) (t := 46) ?hr ?_; (case hd => rfl); (case hg => rfl); (case hr => first | (go_simp; done) | (go_simp; rfl)); intro gb111 hg w8 hbox hb; have n0_ := Aside0.mk (below_step (by repeat (first | (with_reducible first | exact HB.out | apply below_alloc | apply pw_below_drewN | apply below_drew1) | exact HB.out)) hb); have n1_ := Aside0.mk (hbox); have n2_ := Aside0.mk ((by rw [hg]; exact (below_size (by repeat (first | (with_reducible first | exact HB.out | apply below_alloc | apply pw_below_drewN | apply below_drew1) | exact HB.out))) : w.heap.size ≤ gb111)); have n3_ := Aside0.mk ((by rw [hg]; exact (below_size (by repeat (first | (with_reducible first | exact HB.out | apply below_alloc | apply pw_below_drewN | apply below_drew1) | exact HB.out))) : w.heap.size ≤ gb111)); clear HB; have HB := n0_; have BK111 := n1_; have GW111 := n2_; have GE111 := n3_; clear n0_ n1_ n2_ n3_; clear hb hbox hg; have hcz9_0 : w8.cell? ⟨gb111, 0, none⟩ = some (toPtr (.slice A0_0 l0_0.length c0_0)) := (blk_cell BK111.out 0).trans rfl; have hcz9_1 : w8.cell? ⟨gb111, 1, none⟩ = some (.slice A0_1 l0_1.length c0_1) := (blk_cell BK111.out 1).trans rfl; have hcz9_2 : w8.cell? ⟨gb111, 2, none⟩ = some (.int .i64 a0_2) := (blk_cell BK111.out 2).trans rfl; have hcz9_3 : w8.cell? ⟨gb111, 3, none⟩ = some (.int .i64 a0_3) := (blk_cell BK111.out 3).trans rfl; have hfz9_0 := blk_frozen BK111.out 0; have hfz9_1 := blk_frozen BK111.out 1; have hfz9_2 := blk_frozen BK111.out 2; have hfz9_3 := blk_frozen BK111.out 3; have p112 : 0 ≤ ((ji5) : Int) := of_decide_eq_true (by first | (with_reducible assumption) | assumption); have q112 : (ji5) < (l0_1.length : Int) := of_decide_eq_true (by first | (with_reducible assumption) | assumption); obtain ⟨ad112, e112, hx112_0⟩ := Kd.at_int HR0_1.out (ji5) p112 q112; cases e112; replace hx112_0 := (HB.out.cell (World.block_lt_of_cell? w _ hx112_0)).trans hx112_0; replace p112 := eq_true p112; replace q112 := eq_true q112)); try go_wp2_with (first | ((with_reducible refine gate_dst (N := 2) rfl ?_); refine box_event ?hg (N := 2) ?hd (cs := #[toPtr (.slice A0_0 l0_0.length c0_0), .slice A0_1 l0_1.length c0_1, .int .i64 a0_2, .int .i64 a0_3]) (t := 46) ?hr ?_; (case hd => rfl); (case hg => rfl); (case hr => first | (go_simp; done) | (go_simp; rfl)); intro gb111 hg w8 hbox hb; have n0_ := Aside0.mk (below_step (by repeat (first | (with_reducible first | exact HB.out | apply below_alloc | apply pw_below_drewN | apply below_drew1) | exact HB.out)) hb); have n1_ := Aside0.mk (hbox); have n2_ := Aside0.mk ((by rw [hg]; exact (below_size (by repeat (first | (with_reducible first | exact HB.out | apply below_alloc | apply pw_below_drewN | apply below_drew1) | exact HB.out))) : w.heap.size ≤ gb111)); have n3_ := Aside0.mk ((by rw [hg]; exact (below_size (by repeat (first | (with_reducible first | exact HB.out | apply below_alloc | apply pw_below_drewN | apply below_drew1) | exact HB.out))) : w.heap.size ≤ gb111)); clear HB; have HB := n0_; have BK111 := n1_; have GW111 := n2_; have GE111 := n3_; clear n0_ n1_ n2_ n3_; clear hb hbox hg; have hcz9_0 : w8.cell? ⟨gb111, 0, none⟩ = some (toPtr (.slice A0_0 l0_0.length c0_0)) := (blk_cell BK111.out 0).trans rfl; have hcz9_1 : w8.cell? ⟨gb111, 1, none⟩ = some (.slice A0_1 l0_1.length c0_1) := (blk_cell BK111.out 1).trans rfl; have hcz9_2 : w8.cell? ⟨gb111, 2, none⟩ = some (.int .i64 a0_2) := (blk_cell BK111.out 2).trans rfl; have hcz9_3 : w8.cell? ⟨gb111, 3, none⟩ = some (.int .i64 a0_3) := (blk_cell BK111.out 3).trans rfl; have hfz9_0 := blk_frozen BK111.out 0; have hfz9_1 := blk_frozen BK111.out 1; have hfz9_2 := blk_frozen BK111.out 2; have hfz9_3 := blk_frozen BK111.out 3; have p112 : 0 ≤ ((ji5) : Int) := of_decide_eq_true (by first | (with_reducible assumption) | assumption); have q112 : (ji5) < (l0_1.length : Int) := of_decide_eq_true (by first | (with_reducible assumption) | assumption); obtain ⟨ad112, e112, hx112_0⟩ := Kd.at_int HR0_1.out (ji5) p112 q112; cases e112; replace hx112_0 := (HB.out.cell (World.block_lt_of_cell? w _ hx112_0)).trans hx112_0; replace p112 := eq_true p112; replace q112 := eq_true q112)))
     go_ret
     exact ⟨by first | rfl | (simp [errW_none, errW_some] <;> rfl) | (simp only [← hji5]; first | rfl | (simp [errW_none, errW_some] <;> rfl)) | (simp [*, errW_none, errW_some] <;> rfl), by repeat (first | (with_reducible first | exact HB.out | apply below_alloc | apply pw_below_drewN | apply below_drew1 | refine below_set ?_ GE111.out) | exact HB.out)⟩
    ·rw [if_neg c7] at H
     exact absurd H (by simp)
   ·rw [if_neg c6] at H
    exact absurd H (by simp)
end Go.Proofs.Ytndkmnjbjlfeaaa.XM
end
section
namespace Go.Proofs.Ytndkmnjbjlfeaaa.XM
open Go.RowKit Go.Proofs.Ytndkmnjbjlfeaaa.Given Go.Proofs.Ytndkmnjbjlfeaaa.Row05 Go.Proofs.Ytndkmnjbjlfeaaa.XS Go.Proofs.Ytndkmnjbjlfeaaa.XT Go.Proofs.Ytndkmnjbjlfeaaa.XR Go.Proofs.Ytndkmnjbjlfeaaa.F06 Go.Proofs.Ytndkmnjbjlfeaaa.XK Go.Proofs.Ytndkmnjbjlfeaaa.XW Go.Proofs.Ytndkmnjbjlfeaaa.XG Go.Proofs.YtndkmnjbjlfeaaaW.PrintWords Go.Proofs.YtndkmnjbjlfeaaaW.PrintLast Go.Proofs.YtndkmnjbjlfeaaaW.PrintMore
attribute [local go_sem] max2_int min2_int max_two min_two max_three min_three max_four min_four   -- for this text's walks alone
set_option linter.unusedVariables false
set_option linter.unusedSimpArgs false
mutual
noncomputable def mixed_stage_oneW.l0 (s9 n9 : Nat) : Nat → List Int → Int → List Int → Int → Int → List (Fld) → List Int → Int → Int → Option (List Int)
 | 0, _, _, _, _, _, _, _, _, _ => none
 | k + 1, x1, x2, x6, x16, x17, x114000, x114001, x114002, x114003 => if x17 < x16 then ((mixed_stage_lift.f x114000 x114001 x114002 x114003 (wrap64 (x17 * x2))).bind fun t117 => (if 0 ≤ (wrap64 ((wrap64 (x17 * x114003)) + x2)) then (if (wrap64 ((wrap64 (x17 * x114003)) + x2)) < (n9 : Int) then ((field_Field_Times.f x114000 t117 (rdW s9 x1 (wrap64 ((wrap64 (x17 * x114003)) + x2)))).bind fun t119 => (if 0 ≤ x17 then (if x17 < (x6.length : Int) then (mixed_stage_oneW.l0 s9 n9 k x1 x2 (x6.set (x17 : Int).toNat t119) x16 (wrap64 (x17 + 1)) x114000 x114001 x114002 x114003) else (none)) else (none))) else (none)) else (none))) else (mixed_stage_oneW.l1 s9 n9 k x1 x2 x6 (x6.length : Int) 0 x114000 x114001 x114002 x114003)
noncomputable def mixed_stage_oneW.l1 (s9 n9 : Nat) : Nat → List Int → Int → List Int → Int → Int → List (Fld) → List Int → Int → Int → Option (List Int)
 | 0, _, _, _, _, _, _, _, _, _ => none
 | k + 1, x1, x2, x6, x42, x43, x114000, x114001, x114002, x114003 => if x43 < x42 then (mixed_stage_oneW.l2 s9 n9 k x1 x2 x6 x43 0 x42 x43 x6 (x6.length : Int) 0 x114000 x114001 x114002 x114003) else (some x1)
noncomputable def mixed_stage_oneW.l2 (s9 n9 : Nat) : Nat → List Int → Int → List Int → Int → Int → Int → Int → List Int → Int → Int → List (Fld) → List Int → Int → Int → Option (List Int)
 | 0, _, _, _, _, _, _, _, _, _, _, _, _, _, _ => none
 | k + 1, x1, x2, x6, x8, x9, x42, x43, x46, x47, x48, x114000, x114001, x114002, x114003 => if x48 < x47 then (if 0 ≤ x48 then (if x48 < (x46.length : Int) then ((mixed_stage_lift.f x114000 x114001 x114002 x114003 (wrap64 ((wrap64 (x48 * x8)) * x114003))).bind fun t123 => ((field_Field_Times.f x114000 t123 (rd x46 x48)).bind fun t124 => ((field_Field_Add.f x114000 x9 t124).bind fun t125 => (mixed_stage_oneW.l2 s9 n9 k x1 x2 x6 x8 t125 x42 x43 x46 x47 (wrap64 (x48 + 1)) x114000 x114001 x114002 x114003)))) else (none)) else (none)) else (if 0 ≤ (wrap64 ((wrap64 (x8 * x114003)) + x2)) then (if (wrap64 ((wrap64 (x8 * x114003)) + x2)) < (n9 : Int) then (mixed_stage_oneW.l1 s9 n9 k (x1.set (s9 + ((wrap64 ((wrap64 (x8 * x114003)) + x2)) : Int).toNat) x9) x2 x6 x42 (wrap64 (x43 + 1)) x114000 x114001 x114002 x114003) else (none)) else (none))
end
noncomputable def mixed_stage_oneW.f (s9 n9 : Nat) (k : Nat) (l0_0 : List (Fld)) (l0_1 : List Int) (a0_2 : Int) (a0_3 : Int) (l1 : List Int) (a2 : Int) : Option (List Int) := if 0 ≤ a0_2 then (if (a0_2 : Int).toNat ≤ 35184372088832 then ((some (List.replicate (a0_2 : Int).toNat 0 : List Int)).bind fun y114 => (mixed_stage_oneW.l0 s9 n9 k l1 a2 y114 (y114.length : Int) 0 l0_0 l0_1 a0_2 a0_3)) else (none)) else (none)
theorem mixed_stage_oneW.mono_l (s9 n9 : Nat) : ∀ k, (∀ y0 y1 y2 y3 y4 y5 y6 y7 y8, LeO (mixed_stage_oneW.l0 s9 n9 k y0 y1 y2 y3 y4 y5 y6 y7 y8) (mixed_stage_oneW.l0 s9 n9 (k + 1) y0 y1 y2 y3 y4 y5 y6 y7 y8)) ∧ (∀ y0 y1 y2 y3 y4 y5 y6 y7 y8, LeO (mixed_stage_oneW.l1 s9 n9 k y0 y1 y2 y3 y4 y5 y6 y7 y8) (mixed_stage_oneW.l1 s9 n9 (k + 1) y0 y1 y2 y3 y4 y5 y6 y7 y8)) ∧ (∀ y0 y1 y2 y3 y4 y5 y6 y7 y8 y9 y10 y11 y12 y13, LeO (mixed_stage_oneW.l2 s9 n9 k y0 y1 y2 y3 y4 y5 y6 y7 y8 y9 y10 y11 y12 y13) (mixed_stage_oneW.l2 s9 n9 (k + 1) y0 y1 y2 y3 y4 y5 y6 y7 y8 y9 y10 y11 y12 y13))
 | 0 => ⟨fun _ _ _ _ _ _ _ _ _ r h => by simp [mixed_stage_oneW.l0] at h, fun _ _ _ _ _ _ _ _ _ r h => by simp [mixed_stage_oneW.l1] at h, fun _ _ _ _ _ _ _ _ _ _ _ _ _ _ r h => by simp [mixed_stage_oneW.l2] at h⟩
 | k + 1 => by
  obtain ⟨ih0, ih1, ih2⟩ := mixed_stage_oneW.mono_l s9 n9 k
  refine ⟨?_, ?_, ?_⟩
  ·intro y0 y1 y2 y3 y4 y5 y6 y7 y8
   unfold mixed_stage_oneW.l0
   repeat' first
   | (with_reducible exact ih0 _ _ _ _ _ _ _ _ _)
   | (with_reducible exact ih1 _ _ _ _ _ _ _ _ _)
   | (with_reducible exact ih2 _ _ _ _ _ _ _ _ _ _ _ _ _ _)
   | (with_reducible exact LeO.refl _)
   | (with_reducible exact LeO.none _)
   | (with_reducible refine LeO.ite ?_ ?_)
   | (with_reducible refine LeO.bind ?_ (fun _ => ?_))
   | exact ih0 _ _ _ _ _ _ _ _ _
   | exact ih1 _ _ _ _ _ _ _ _ _
   | exact ih2 _ _ _ _ _ _ _ _ _ _ _ _ _ _
   | exact LeO.none _
   | refine LeO.ite ?_ ?_
   | refine LeO.bind ?_ (fun _ => ?_)
  ·intro y0 y1 y2 y3 y4 y5 y6 y7 y8
   unfold mixed_stage_oneW.l1
   repeat' first
   | (with_reducible exact ih0 _ _ _ _ _ _ _ _ _)
   | (with_reducible exact ih1 _ _ _ _ _ _ _ _ _)
   | (with_reducible exact ih2 _ _ _ _ _ _ _ _ _ _ _ _ _ _)
   | (with_reducible exact LeO.refl _)
   | (with_reducible exact LeO.none _)
   | (with_reducible refine LeO.ite ?_ ?_)
   | (with_reducible refine LeO.bind ?_ (fun _ => ?_))
   | exact ih0 _ _ _ _ _ _ _ _ _
   | exact ih1 _ _ _ _ _ _ _ _ _
   | exact ih2 _ _ _ _ _ _ _ _ _ _ _ _ _ _
   | exact LeO.none _
   | refine LeO.ite ?_ ?_
   | refine LeO.bind ?_ (fun _ => ?_)
  ·intro y0 y1 y2 y3 y4 y5 y6 y7 y8 y9 y10 y11 y12 y13
   unfold mixed_stage_oneW.l2
   repeat' first
   | (with_reducible exact ih0 _ _ _ _ _ _ _ _ _)
   | (with_reducible exact ih1 _ _ _ _ _ _ _ _ _)
   | (with_reducible exact ih2 _ _ _ _ _ _ _ _ _ _ _ _ _ _)
   | (with_reducible exact LeO.refl _)
   | (with_reducible exact LeO.none _)
   | (with_reducible refine LeO.ite ?_ ?_)
   | (with_reducible refine LeO.bind ?_ (fun _ => ?_))
   | exact ih0 _ _ _ _ _ _ _ _ _
   | exact ih1 _ _ _ _ _ _ _ _ _
   | exact ih2 _ _ _ _ _ _ _ _ _ _ _ _ _ _
   | exact LeO.none _
   | refine LeO.ite ?_ ?_
   | refine LeO.bind ?_ (fun _ => ?_)
theorem mixed_stage_oneW.mono (s9 n9 : Nat) : ∀ a0 a1 a2 a3 a4 a5 k, LeO (mixed_stage_oneW.f s9 n9 k a0 a1 a2 a3 a4 a5) (mixed_stage_oneW.f s9 n9 (k + 1) a0 a1 a2 a3 a4 a5) := by
 intro a0 a1 a2 a3 a4 a5 k
 obtain ⟨ih0, ih1, ih2⟩ := mixed_stage_oneW.mono_l s9 n9 k
 unfold mixed_stage_oneW.f
 repeat' first
   | (with_reducible exact ih0 _ _ _ _ _ _ _ _ _)
   | (with_reducible exact ih1 _ _ _ _ _ _ _ _ _)
   | (with_reducible exact ih2 _ _ _ _ _ _ _ _ _ _ _ _ _ _)
   | (with_reducible exact LeO.refl _)
   | (with_reducible exact LeO.none _)
   | (with_reducible refine LeO.ite ?_ ?_)
   | (with_reducible refine LeO.bind ?_ (fun _ => ?_))
   | exact ih0 _ _ _ _ _ _ _ _ _
   | exact ih1 _ _ _ _ _ _ _ _ _
   | exact ih2 _ _ _ _ _ _ _ _ _ _ _ _ _ _
   | exact LeO.none _
   | refine LeO.ite ?_ ?_
   | refine LeO.bind ?_ (fun _ => ?_)
def mixed_stage_oneW.T5 : Bool × List (List Nat × List Nat) := (true, [([], []), ([], []), ([], []), ([2], [2]), ([], []), ([], []), ([], []), ([5, 6], [5, 6]), ([4, 7], [4, 7]), ([], []), ([], []), ([], []), ([11], [11]), ([10, 12], [10, 12]), ([], []), ([13, 14], [13, 14]), ([9, 15], [9, 15]), ([16], [16]), ([3, 8, 17, 8], [3, 8, 17]), ([0, 1, 0, 1, 2, 3, 4, 5, 6, 7, 8, 9, 10, 11, 12, 13, 14, 15, 16, 17, 18], [0, 1]), ([19, 18, 18, 0, 1, 2, 3, 4, 5, 6, 7, 8, 9, 10, 11, 12, 13, 14, 15, 16, 17, 18], [18, 19])])
def mixed_stage_oneW.B5 : List Nat := [0, 0, 0, 4, 0, 0, 0, 96, 240, 0, 0, 0, 2048, 7168, 0, 31744, 65024, 130560, 262140, 524287, 1048575]
theorem mixed_stage_oneW.tab5 : rtab .any (opsOf Try.f31 5) = mixed_stage_oneW.T5 := by kernel_rfl
theorem mixed_stage_oneW.bits5 : waitsOk mixed_stage_oneW.T5.2 mixed_stage_oneW.B5 = true := by kernel_rfl
def mixed_stage_oneW.T14 : Bool × List (List Nat × List Nat) := (true, [([], []), ([0], [0]), ([], []), ([], []), ([3], [3]), ([], []), ([], []), ([], []), ([6, 7], [6, 7]), ([], []), ([9], [9]), ([8, 10], [8, 10]), ([5, 11], [5, 11]), ([], []), ([4, 12, 13, 12], [4, 12, 13]), ([1, 2, 14, 14], [1, 2, 14]), ([15, 15, 0, 1, 2, 3, 4, 5, 6, 7, 8, 9, 10, 11, 12, 13, 14, 15], [2, 15])])
def mixed_stage_oneW.B14 : List Nat := [0, 1, 0, 0, 8, 0, 0, 0, 192, 0, 512, 1984, 4064, 0, 16376, 32767, 65535]
theorem mixed_stage_oneW.tab14 : rtab .any (opsOf Try.f31 14) = mixed_stage_oneW.T14 := by kernel_rfl
theorem mixed_stage_oneW.bits14 : waitsOk mixed_stage_oneW.T14.2 mixed_stage_oneW.B14 = true := by kernel_rfl
set_option maxHeartbeats 8000000 in
set_option maxRecDepth 100000 in
theorem mixed_stage_oneW.calls (k : Nat) (A0_0 : Option Addr) (c0_0 : Nat) (l0_0 : List (Fld)) (A0_1 : Option Addr) (c0_1 : Nat) (l0_1 : List Int) (a0_2 : Int) (a0_3 : Int) (P1_ : Nat → Prop) (g9 s9 n9 cp9 co9 : Nat) (l1 : List Int) (a2 : Int) (r : List Int) (w0 w : World) (hB : Below w0.heap.size w0 w) (hr0_0 : ∀ W_, Kept w W_ (fun k_ => P1_ k_) → Kd.C kFld W_ A0_0 l0_0.length l0_0) (hc0_0 : l0_0.length ≤ c0_0) (hr0_1 : ∀ W_, Kept w W_ (fun k_ => P1_ k_) → Kd.C (Kd.int .u64) W_ A0_1 l0_1.length l0_1) (hc0_1 : l0_1.length ≤ c0_1) (ho1 : Kd.R (Kd.int .u64) 31 w w0.heap.size P1_ (.slice (some ⟨g9, 0, none⟩) l1.length co9) l1) (hs9 : s9 + n9 ≤ l1.length) (h : mixed_stage_oneW.f s9 n9 k l0_0 l0_1 a0_2 a0_3 l1 a2 = some r) :
  Calls Try.prog 31 #[.agg #[toPtr (.slice A0_0 l0_0.length c0_0), .slice A0_1 l0_1.length c0_1, .int .i64 a0_2, .int .i64 a0_3], .slice (some ⟨g9, s9, none⟩) n9 cp9, .int .i64 a2] w fun e w' => e = .returned (.tuple #[]) ∧ Kd.R (Kd.int .u64) 31 w' w0.heap.size (fun k_ => (P1_ k_ ∨ w.heap.size ≤ k_)) (.slice (some ⟨g9, 0, none⟩) l1.length co9) r ∧ Below w0.heap.size w0 w' ∧ Kept w w' (fun k_ => P1_ k_) := by
 have hu46 := Try.underlying46
 have HS9 := Aside0.mk hs9
 clear hs9
 have HR0_0 := Aside0.mk hr0_0
 have HC0_0 := Aside0.mk hc0_0
 clear hr0_0 hc0_0
 have HR0_1 := Aside0.mk hr0_1
 have HC0_1 := Aside0.mk hc0_1
 clear hr0_1 hc0_1
 have HO1 := Aside0.mk (show Kd.R (Kd.int .u64) 31 w w0.heap.size (fun k_ => (P1_ k_ ∨ w.heap.size ≤ k_)) (.slice (some ⟨g9, 0, none⟩) l1.length co9) l1 from Kd.R_mono ho1 (fun k_ hk => (.inl hk)))
 have HK := Aside0.mk (Kept.refl w (fun k_ => P1_ k_))
 have HW0 := Aside0.mk hB.size
 have HB := Aside0.mk hB
 clear hB
 have H : (if 0 ≤ a0_2 then (if (a0_2 : Int).toNat ≤ 35184372088832 then ((some (List.replicate (a0_2 : Int).toNat 0 : List Int)).bind fun y114 => (mixed_stage_oneW.l0 s9 n9 k l1 a2 y114 (y114.length : Int) 0 l0_0 l0_1 a0_2 a0_3)) else (none)) else (none)) = some r := h
 clear h
 by_cases c4 : 0 ≤ a0_2
 ·rw [if_pos c4] at H
  have c4b0 := eq_true c4
  have c4b1 : decide (0 ≤ a0_2) = true := decide_eq_true c4
  clear c4
  by_cases c5 : (a0_2 : Int).toNat ≤ 35184372088832
  ·rw [if_pos c5] at H
   have c5b0 := eq_true c5
   have c5b1 : decide ((a0_2 : Int).toNat ≤ 35184372088832) = true := decide_eq_true c5
   clear c5
   obtain ⟨y114, hy114⟩ : ∃ y_ : List Int, y_ = (List.replicate (a0_2 : Int).toNat 0) := ⟨_, rfl⟩
   replace H : (mixed_stage_oneW.l0 s9 n9 k l1 a2 y114 (y114.length : Int) 0 l0_0 l0_1 a0_2 a0_3) = some r := by first | (rw [hy114]; with_reducible exact H) | (have H2_ := (Option.bind_some _ _).symm.trans H; rw [hy114]; with_reducible exact H2_) | (have H2_ := (Option.bind_some _ _).symm.trans H; with_reducible exact H2_) | with_reducible exact H | (rw [hy114]; exact H) | exact H
   have Ny114 := Aside0.mk hy114
   clear hy114
   have H' := Aside0.mk H
   clear H
   go_enter Try.func31, Try.ntmps31
   go_wp2_with (first | ((with_reducible refine gate_dst (N := 3) rfl ?_); refine box_event ?hg (N := 3) ?hd (cs := #[toPtr (.slice A0_0 l0_0.length c0_0), .slice A0_1 l0_1.length c0_1, .int .i64 a0_2, .int .i64 a0_3]) (t := 46) ?hr ?_; (case hd => rfl); (case hg => rfl); (case hr => first | (go_simp; done) | (go_simp; rfl)); intro gb113 hg w6 hbox hb; have n0_ := Aside0.mk (Kd.R_below (by (with_reducible repeat (first | apply Kd.R_alloc | apply Kd.R_drewN | apply Kd.R_drew)); exact HO1.out) hb); have n1_ := Aside0.mk (Kept.below (S := (fun k_ => P1_ k_)) (by repeat (first | (with_reducible first | exact HK.out | apply Kept.alloc | apply Kept.drewN | apply Kept.drew) | exact HK.out)) hb); have n2_ := Aside0.mk (below_step (by repeat (first | (with_reducible first | exact HB.out | apply below_alloc | apply pw_below_drewN | apply below_drew1) | exact HB.out)) hb); have n3_ := Aside0.mk (hbox); have n4_ := Aside0.mk ((by rw [hg]; exact (by first | exact HK.out.1 | exact (show Kept w _ (fun k_ => P1_ k_) from by repeat (first | (with_reducible first | exact HK.out | apply Kept.alloc | apply Kept.drewN | apply Kept.drew) | exact HK.out)).1) : w.heap.size ≤ gb113)); have n5_ := Aside0.mk ((by rw [hg]; exact (below_size (by repeat (first | (with_reducible first | exact HB.out | apply below_alloc | apply pw_below_drewN | apply below_drew1) | exact HB.out))) : w0.heap.size ≤ gb113)); clear HO1; clear HK; clear HB; have HO1 := n0_; have HK := n1_; have HB := n2_; have BK113 := n3_; have GW113 := n4_; have GE113 := n5_; clear n0_ n1_ n2_ n3_ n4_ n5_; clear hb hbox hg; have hcz7_0 : w6.cell? ⟨gb113, 0, none⟩ = some (toPtr (.slice A0_0 l0_0.length c0_0)) := (blk_cell BK113.out 0).trans rfl; have hcz7_1 : w6.cell? ⟨gb113, 1, none⟩ = some (.slice A0_1 l0_1.length c0_1) := (blk_cell BK113.out 1).trans rfl; have hcz7_2 : w6.cell? ⟨gb113, 2, none⟩ = some (.int .i64 a0_2) := (blk_cell BK113.out 2).trans rfl; have hcz7_3 : w6.cell? ⟨gb113, 3, none⟩ = some (.int .i64 a0_3) := (blk_cell BK113.out 3).trans rfl; have hfz7_0 := blk_frozen BK113.out 0; have hfz7_1 := blk_frozen BK113.out 1; have hfz7_2 := blk_frozen BK113.out 2; have hfz7_3 := blk_frozen BK113.out 3) | ((with_reducible refine gate_dst (N := 14) rfl ?_); refine Kd.R_make (Kd.int .u64) _ 31 rfl (N := 14) rfl 32 _ _ rfl a0_2 rfl rfl Try.underlying32 (.int .u64 0) 8 info31 rfl (by decide) (by omega) 0 (ok := fun _ => True) (okp := fun _ => True) rfl (fun _ hk => hk) trivial (of_decide_eq_true (by first | (with_reducible assumption) | assumption)) (Nat.le_trans (Nat.mul_le_mul_right _ (of_decide_eq_true (by first | (with_reducible assumption) | assumption) : a0_2.toNat ≤ 35184372088832)) (by omega)) (Below.refl _ _) (Nat.le_refl _) ?_; intro v115 w8 ho9 hb hg_ hnew_; clear hg_ hnew_; (first | rw [← Ny114.out] at ho9 | (simp only [Int.reduceToNat] at ho9; rw [← Ny114.out] at ho9)); have n0_ := Aside0.mk (Kd.R_elder' (by (with_reducible repeat (first | apply Kd.R_alloc | apply Kd.R_drewN | apply Kd.R_drew)); exact HO1.out) (Kd.R_base ho9) hb); have n1_ := Aside0.mk (Kd.R_lower (Kd.R_new' (Kd.R_newM (M := fun k_ => (P1_ k_ ∨ w.heap.size ≤ k_)) ho9 (by first | exact HK.out.1 | exact (show Kept w _ (fun k_ => P1_ k_) from by repeat (first | (with_reducible first | exact HK.out | apply Kept.alloc | apply Kept.drewN | apply Kept.drew | refine Kept.setCell ?_ (.inr GW113.out) _) | exact HK.out)).1) (fun k_ h_ => .inr h_)) (Kd.R_lt (by (with_reducible repeat (first | apply Kd.R_alloc | apply Kd.R_drewN | apply Kd.R_drew)); exact HO1.out))) (below_size (by repeat (first | (with_reducible first | exact HB.out | apply below_alloc | apply pw_below_drewN | apply below_drew1 | refine below_set ?_ GE113.out) | exact HB.out)))); have n2_ := Aside0.mk (blk_below (g := gb113) (o := .cells #[toPtr (.slice A0_0 l0_0.length c0_0), .slice A0_1 l0_1.length c0_1, .int .i64 a0_2, .int .i64 a0_3] 46 (0, 0)) (by (with_reducible repeat (first | refine blk_drewN ?_ _ | refine blk_drew ?_ | refine blk_alloc ?_ _)); exact BK113.out) hb); have n3_ := Aside0.mk (Kept.below (S := (fun k_ => P1_ k_)) (by repeat (first | (with_reducible first | exact HK.out | apply Kept.alloc | apply Kept.drewN | apply Kept.drew | refine Kept.setCell ?_ (.inr GW113.out) _) | exact HK.out)) hb); have n4_ := Aside0.mk (below_step (by repeat (first | (with_reducible first | exact HB.out | apply below_alloc | apply pw_below_drewN | apply below_drew1 | refine below_set ?_ GE113.out) | exact HB.out)) hb); clear HO1; clear BK113; clear HK; clear HB; have HO1 := n0_; have HO116 := n1_; have BK113 := n2_; have HK := n3_; have HB := n4_; clear n0_ n1_ n2_ n3_ n4_; clear hb ho9; obtain ⟨Ao10, co10, eo10⟩ := Kd.R_slice HO116.out; subst eo10))
   go_loopg [17] k (fun kq v17 w' => ∃ (x6_1 : List Int) (x17_1 : Int), v17 = .int .i64 x17_1 ∧ Aside0 (mixed_stage_oneW.l0 s9 n9 kq l1 a2 x6_1 (y114.length : Int) x17_1 l0_0 l0_1 a0_2 a0_3 = some r) ∧ Aside0 (kq ≤ k) ∧ Aside0 (Kd.R (Kd.int .u64) 31 w' w0.heap.size (fun k_ => (P1_ k_ ∨ w.heap.size ≤ k_) ∧ some k_ ≠ ((.slice Ao10 y114.length co10) : Value).ownBlock) (.slice (some ⟨g9, 0, none⟩) l1.length co9) l1) ∧ Aside0 (Kd.R (Kd.int .u64) 31 w' w0.heap.size (fun k_ => (P1_ k_ ∨ w.heap.size ≤ k_) ∧ some k_ ≠ ((.slice (some ⟨g9, 0, none⟩) l1.length co9) : Value).ownBlock) (.slice Ao10 y114.length co10) x6_1) ∧ Aside0 (w'.heap[gb113]? = some (.cells #[(toPtr (.slice A0_0 l0_0.length c0_0)), (.slice A0_1 l0_1.length c0_1), .int .i64 a0_2, .int .i64 a0_3] 46 (0, 0))) ∧ Aside0 (Kept w w' (fun k_ => P1_ k_)) ∧ Aside0 (Below w0.heap.size w0 w'))
   case atStart => exact ⟨(y114), (0), (by first | rfl | (simp; done) | (simp [*]; done)), H', ⟨Nat.le_refl _⟩, ⟨by (with_reducible repeat (first | apply Kd.R_alloc | apply Kd.R_drewN | apply Kd.R_drew)); exact HO1.out⟩, ⟨by (with_reducible repeat (first | apply Kd.R_alloc | apply Kd.R_drewN | apply Kd.R_drew)); exact Kd.R_mono HO116.out (fun _ hk => ⟨hk.1.1, hk.2⟩)⟩, ⟨by (with_reducible repeat (first | refine blk_drewN ?_ _ | refine blk_drew ?_ | refine blk_alloc ?_ _)); exact BK113.out⟩, ⟨by repeat (first | (with_reducible first | exact HK.out | apply Kept.alloc | apply Kept.drewN | apply Kept.drew | refine Kept.setCell ?_ (.inr GW113.out) _) | exact HK.out)⟩, ⟨by repeat (first | (with_reducible first | exact HB.out | apply below_alloc | apply pw_below_drewN | apply below_drew1 | refine below_set ?_ GE113.out) | exact HB.out)⟩⟩
   case round =>
    clear H'
    try clear p2
    try clear c3
    try clear c4
    try clear c4b0
    try clear c4b1
    try clear c5
    try clear c5b0
    try clear c5b1
    try clear hcz7_0
    try clear hcz7_1
    try clear hcz7_2
    try clear hcz7_3
    try clear hfz7_0
    try clear hfz7_1
    try clear hfz7_2
    try clear hfz7_3
    obtain ⟨x6_1, x17_1, rfl, HA, HK1, HO_1, HO_6, BK113, HK, HB⟩ := hrel
    have hl6_1 := (Kd.R_reads' HO_6.out).1
    rw [hl6_1] at HO_6
    (try simp only [hl6_1])
    (try simp only [hl6_1] at BK113)
    (try simp only [hl6_1] at HO_1)
    cases gk with
    | zero => exact absurd HA.out (by simp [mixed_stage_oneW.l0])
    | succ k1 =>
     have H := HA.out
     clear HA
     simp only [mixed_stage_oneW.l0] at H
     by_cases c11 : x17_1 < (y114.length : Int)
     ·rw [if_pos c11] at H
      have c11b0 : decide (x17_1 < (y114.length : Int)) = true := decide_eq_true c11
      (try (have c11b0hl6_1 := c11b0; simp only [hl6_1] at c11b0hl6_1))
      clear c11
      replace H := Option.bind_eq_some_iff.mp H
      obtain ⟨t117, A120, H⟩ := H
      replace H : (if 0 ≤ (wrap64 ((wrap64 (x17_1 * a0_3)) + a2)) then (if (wrap64 ((wrap64 (x17_1 * a0_3)) + a2)) < (n9 : Int) then ((field_Field_Times.f l0_0 t117 (rdW s9 l1 (wrap64 ((wrap64 (x17_1 * a0_3)) + a2)))).bind fun t119 => (if 0 ≤ x17_1 then (if x17_1 < (x6_1.length : Int) then (mixed_stage_oneW.l0 s9 n9 k1 l1 a2 (x6_1.set (x17_1 : Int).toNat t119) (y114.length : Int) (wrap64 (x17_1 + 1)) l0_0 l0_1 a0_2 a0_3) else (none)) else (none))) else (none)) else (none)) = some r := H
      have A12 := Aside0.mk A120
      clear A120
      obtain ⟨ji13, hji13⟩ : ∃ j_ : Int, (wrap64 ((wrap64 (x17_1 * a0_3)) + a2)) = j_ := ⟨_, rfl⟩
      replace H : (if 0 ≤ (ji13) then (if (ji13) < (n9 : Int) then ((field_Field_Times.f l0_0 t117 (rdW s9 l1 (ji13))).bind fun t119 => (if 0 ≤ x17_1 then (if x17_1 < (x6_1.length : Int) then (mixed_stage_oneW.l0 s9 n9 k1 l1 a2 (x6_1.set (x17_1 : Int).toNat t119) (y114.length : Int) (wrap64 (x17_1 + 1)) l0_0 l0_1 a0_2 a0_3) else (none)) else (none))) else (none)) else (none)) = some r := by first | (rw [hji13] at H <;> exact H) | (simp only [hji13] at H ⊢; exact H)
      (try rw [hji13] at A12)
      have hji13v : (IntKind.i64.wrap ((IntKind.i64.wrap (x17_1 * a0_3)) + a2)) = ji13 := by simp only [i64_w]; exact hji13
      have hji13w : (IntKind.i64.wrap ((wrap64 (x17_1 * a0_3)) + a2)) = ji13 := (i64_w _).trans hji13
      by_cases c14 : 0 ≤ (ji13)
      ·rw [if_pos c14] at H
       have c14b0 : decide (0 ≤ (ji13)) = true := decide_eq_true c14
       clear c14
       by_cases c15 : (ji13) < (n9 : Int)
       ·rw [if_pos c15] at H
        have c15b0 : decide ((ji13) < (n9 : Int)) = true := decide_eq_true c15
        (try (have c15b0hl6_1 := c15b0; simp only [hl6_1] at c15b0hl6_1))
        clear c15
        replace H := Option.bind_eq_some_iff.mp H
        obtain ⟨t119, A160, H⟩ := H
        replace H : (if 0 ≤ x17_1 then (if x17_1 < (x6_1.length : Int) then (mixed_stage_oneW.l0 s9 n9 k1 l1 a2 (x6_1.set (x17_1 : Int).toNat t119) (y114.length : Int) (wrap64 (x17_1 + 1)) l0_0 l0_1 a0_2 a0_3) else (none)) else (none)) = some r := H
        have A16 := Aside0.mk A160
        clear A160
        by_cases c17 : 0 ≤ x17_1
        ·rw [if_pos c17] at H
         have c17b0 : decide (0 ≤ x17_1) = true := decide_eq_true c17
         clear c17
         by_cases c18 : x17_1 < (x6_1.length : Int)
         ·rw [if_pos c18] at H
          have c18b0 : decide (x17_1 < (x6_1.length : Int)) = true := decide_eq_true c18
          (try (have c18b0hl6_1 := c18b0; simp only [hl6_1] at c18b0hl6_1))
          clear c18
          obtain ⟨y120, hy120⟩ : ∃ y_ : List Int, y_ = (x6_1.set (x17_1 : Int).toNat t119) := ⟨_, rfl⟩
          replace H : (mixed_stage_oneW.l0 s9 n9 k1 l1 a2 y120 (y114.length : Int) (wrap64 (x17_1 + 1)) l0_0 l0_1 a0_2 a0_3) = some r := by first | (rw [hy120]; with_reducible exact H) | (have H2_ := (Option.bind_some _ _).symm.trans H; rw [hy120]; with_reducible exact H2_) | (have H2_ := (Option.bind_some _ _).symm.trans H; with_reducible exact H2_) | with_reducible exact H | (rw [hy120]; exact H) | exact H
          have Ny120 := Aside0.mk hy120
          clear hy120
          have H' := Aside0.mk H
          clear H
          try go_wp2
          have n0_ := Aside0.mk (Kd.R_drew HO_1.out)
          have n1_ := Aside0.mk (Kd.R_drew HO_6.out)
          have n2_ := Aside0.mk (blk_drew BK113.out)
          have n3_ := Aside0.mk (Kept.drew HK.out)
          have n4_ := Aside0.mk (below_drew1 HB.out)
          clear HO_1
          clear HO_6
          clear BK113
          clear HK
          clear HB
          have HO_1 := n0_
          have HO_6 := n1_
          have BK113 := n2_
          have HK := n3_
          have HB := n4_
          clear n0_ n1_ n2_ n3_ n4_
          have p118 : 0 ≤ ((ji13) : Int) := of_decide_eq_true (by first | (with_reducible assumption) | assumption)
          have q118 : (ji13) < (n9 : Int) := of_decide_eq_true (by first | (with_reducible assumption) | assumption)
          have hx118_0 := (win_rd HO_1.out HS9.out (ji13) p118 q118).1
          replace p118 := eq_true p118
          replace q118 := eq_true q118
          refine start_ (n := 21) (S := fun w' => w'.cell? ⟨gb113, 0, none⟩ = some (toPtr (.slice A0_0 l0_0.length c0_0)) ∧ w'.cell? ⟨gb113, 1, none⟩ = some (.slice A0_1 l0_1.length c0_1) ∧ w'.cell? ⟨gb113, 2, none⟩ = some (.int .i64 a0_2) ∧ w'.cell? ⟨gb113, 3, none⟩ = some (.int .i64 a0_3) ∧ w'.cell? ⟨g9, s9 + ((ji13)).toNat, none⟩ = some (.int .u64 (rdW s9 l1 (ji13)))) (ds := [20]) #[false, false, false, false, false, false, false, false, false, false, false, false, false, false, false, false, false, false, false, false, false] (by kernel_rfl) rfl rfl ⟨(blk_cell BK113.out 0).trans rfl, (blk_cell BK113.out 1).trans rfl, (blk_cell BK113.out 2).trans rfl, (blk_cell BK113.out 3).trans rfl, hx118_0⟩ (fun hHeld => ?_); refine with_tabW mixed_stage_oneW.tab5 mixed_stage_oneW.bits5 (fun HT_ HW_ => ?_)
          generalize wr.drew = w20 at HO_1 HO_6 BK113 HK HB hx118_0 hHeld ⊢
          refine pS_ 0 20 (any_of HT_.out (by kernel_rfl)) rfl rfl ?_
          refine pS_ 1 21 (any_of HT_.out (by kernel_rfl)) rfl rfl ?_
          refine pS_ 2 22 (any_of HT_.out (by kernel_rfl)) rfl rfl ?_
          refine pS_ 5 25 (any_of HT_.out (by kernel_rfl)) rfl rfl ?_
          refine pS_ 6 26 (any_of HT_.out (by kernel_rfl)) rfl rfl ?_
          refine pS_ 7 27 (any_of HT_.out (by kernel_rfl)) rfl rfl ?_
          refine pS_ 9 29 (any_of HT_.out (by kernel_rfl)) rfl rfl ?_
          refine pS_ 10 30 (any_of HT_.out (by kernel_rfl)) rfl rfl ?_
          refine pS_ 11 31 (any_of HT_.out (by kernel_rfl)) rfl rfl ?_
          refine pS_ 14 34 (any_of HT_.out (by kernel_rfl)) rfl rfl ?_
          refine tS_ 3 23 (take_ofW HT_.out HW_.out (by kernel_rfl)) hHeld (by rintro w' ⟨s0, s1, s2, s3, s4⟩; go_simp; with_reducible rfl) rfl rfl ?_
          refine tS_ 4 24 (take_ofW HT_.out HW_.out (by kernel_rfl)) hHeld (by rintro w' ⟨s0, s1, s2, s3, s4⟩; go_simp; with_reducible rfl) rfl rfl ?_
          refine tS_ 12 32 (take_ofW HT_.out HW_.out (by kernel_rfl)) hHeld (by rintro w' ⟨s0, s1, s2, s3, s4⟩; go_simp; with_reducible rfl) rfl rfl ?_
          refine pS_ 13 33 (any_of HT_.out (by kernel_rfl)) rfl rfl ?_
          refine pS_ 15 35 (any_of HT_.out (by kernel_rfl)) rfl rfl ?_
          refine pS_ 16 36 (any_of HT_.out (by kernel_rfl)) rfl rfl ?_
          refine tS_ 17 37 (take_ofW HT_.out HW_.out (by kernel_rfl)) hHeld (by rintro w' ⟨s0, s1, s2, s3, s4⟩; go_simp; with_reducible rfl) rfl rfl ?_
          refine one_ (i := 8) (N := some 28) #[true, true, true, true, true, true, true, true, true, true, true, true, true, true, true, true, true, true, false, false, false] rfl rfl (one_of HT_.out (by kernel_rfl)) (by decide) (fun K hK => ?_)
          refine goes_ Try.func46 (by kernel_rfl) rfl #[.agg #[toPtr (.slice A0_0 l0_0.length c0_0), .slice A0_1 l0_1.length c0_1, .int .i64 a0_2, .int .i64 a0_3], .int .i64 (wrap64 (x17_1 * a2))] (by rfl) rfl rfl (by (try simp only [List.map_toArray, List.map_cons, List.map_nil]); first | done | (rw [hT_HR0_0] <;> rfl) | (rw [hT_HR0_0] <;> rfl) | rfl | (simp only [List.length_drop, List.length_take]; rfl)) ?_
          (try rw [← hT_HR0_0])
          with_reducible refine (mixed_stage_lift.calls _ _ l0_0 _ _ l0_1 a0_2 a0_3 (wrap64 (x17_1 * a2)) t117 _ ?side1 ?side2 ?side3 ?side4 A12.out).mono ?_
          (case side1 => exact Kd.C_kept_now HR0_0.out (by repeat (first | (with_reducible first | exact HK.out | apply Kept.alloc | apply Kept.drewN | apply Kept.drew | refine Kept.setCell ?_ (.inr GW113.out) _) | exact HK.out)))
          (case side2 => exact HC0_0.out)
          (case side3 => exact Kd.C_kept_now HR0_1.out (by repeat (first | (with_reducible first | exact HK.out | apply Kept.alloc | apply Kept.drewN | apply Kept.drew | refine Kept.setCell ?_ (.inr GW113.out) _) | exact HK.out)))
          (case side4 => exact HC0_1.out)
          rintro e w22 ⟨rfl, hb⟩
          have HS4_ := (hb.cell (World.block_lt_of_cell? _ _ (hHeld.2.2.2.2))).trans (hHeld.2.2.2.2)
          refine ⟨_, rfl, ?_⟩
          have n0_ := Aside0.mk (Kd.R_below (by (with_reducible repeat (first | apply Kd.R_alloc | apply Kd.R_drewN | apply Kd.R_drew)); exact HO_1.out) hb)
          have n1_ := Aside0.mk (Kd.R_below (by (with_reducible repeat (first | apply Kd.R_alloc | apply Kd.R_drewN | apply Kd.R_drew)); exact HO_6.out) hb)
          have n2_ := Aside0.mk (blk_below (g := gb113) (o := .cells #[toPtr (.slice A0_0 l0_0.length c0_0), .slice A0_1 l0_1.length c0_1, .int .i64 a0_2, .int .i64 a0_3] 46 (0, 0)) (by (with_reducible repeat (first | refine blk_drewN ?_ _ | refine blk_drew ?_ | refine blk_alloc ?_ _)); exact BK113.out) hb)
          have n3_ := Aside0.mk (Kept.below (S := (fun k_ => P1_ k_)) (by repeat (first | (with_reducible first | exact HK.out | apply Kept.alloc | apply Kept.drewN | apply Kept.drew | refine Kept.setCell ?_ (.inr GW113.out) _) | exact HK.out)) hb)
          have n4_ := Aside0.mk (below_step (by repeat (first | (with_reducible first | exact HB.out | apply below_alloc | apply pw_below_drewN | apply below_drew1 | refine below_set ?_ GE113.out) | exact HB.out)) hb)
          clear HO_1
          clear HO_6
          clear BK113
          clear HK
          clear HB
          have HO_1 := n0_
          have HO_6 := n1_
          have BK113 := n2_
          have HK := n3_
          have HB := n4_
          clear n0_ n1_ n2_ n3_ n4_
          (try clear hb)
          (try clear hb2)
          (try clear hk)
          (try clear hi)
          refine hK.out _ _ ⟨(blk_cell BK113.out 0).trans rfl, (blk_cell BK113.out 1).trans rfl, (blk_cell BK113.out 2).trans rfl, (blk_cell BK113.out 3).trans rfl, HS4_⟩ (fun hHeld => ?_)
          clear hK K
          refine nS_ ?_
          refine one_ (i := 18) (N := some 38) #[true, true, true, true, true, true, true, true, true, true, true, true, true, true, true, true, true, true, true, false, false] rfl rfl (one_of HT_.out (by kernel_rfl)) (by decide) (fun K hK => ?_)
          refine goes_ Try.func33 (by kernel_rfl) rfl #[toPtr (.slice A0_0 l0_0.length c0_0), .int .u64 t117, .int .u64 (rdW s9 l1 (ji13))] (by rfl) rfl rfl (by (try simp only [List.map_toArray, List.map_cons, List.map_nil]); first | done | (rw [hT_HR0_0] <;> rfl) | (rw [hT_HR0_0] <;> rfl) | (simp only [hji13]; rfl) | rfl | (simp only [List.length_drop, List.length_take]; rfl)) ?_
          (try rw [← hT_HR0_0])
          with_reducible refine (field_Field_Times.calls _ _ l0_0 t117 (rdW s9 l1 (ji13)) t119 _ ?side1 ?side2 A16.out).mono ?_
          (case side1 => exact Kd.C_kept_now HR0_0.out (by repeat (first | (with_reducible first | exact HK.out | apply Kept.alloc | apply Kept.drewN | apply Kept.drew | refine Kept.setCell ?_ (.inr GW113.out) _) | exact HK.out)))
          (case side2 => exact HC0_0.out)
          rintro e w' ⟨rfl, ⟨nd, rfl⟩⟩
          refine ⟨_, rfl, ?_⟩
          have p19 : 0 ≤ (x17_1 : Int) := of_decide_eq_true (by first | (with_reducible assumption) | assumption)
          have q19 : (x17_1 : Int) < ((x6_1.length : Int) : Int) := of_decide_eq_true (by first | (with_reducible assumption) | assumption)
          obtain ⟨go19, co19, eo19, gb19, gl19, cl19, HG19⟩ := Kd.R_form HO_6.out (by omega)
          (first | cases eo19 | (injection eo19 with ea_ en_ ec_; (first | subst ea_ | (injection ea_ with ea_; subst ea_)); subst ec_; clear en_))
          have GB19 := Aside0.mk gb19
          have GG19 := Aside0.mk HG19
          clear gb19 gl19 HG19
          have HMgo19 := Aside0.mk (show (P1_ go19 ∨ w.heap.size ≤ go19) from (HO_6.out.1 _ rfl).1)
          obtain ⟨hx19_0, hf19_0⟩ := Kd.R_celln 0 HO_6.out (x17_1 : Int) p19 q19
          replace p19 := eq_true p19
          replace q19 := eq_true q19
          have HP23 := Kd.R_putn HO_6.out (x17_1 : Int) t119
          rw [← Ny120.out] at HP23
          have HQ23 := Aside0.mk HP23
          clear HP23
          refine hK.out _ _ ⟨(blk_cell BK113.out 0).trans rfl, (blk_cell BK113.out 1).trans rfl, (blk_cell BK113.out 2).trans rfl, (blk_cell BK113.out 3).trans rfl, hHeld.2.2.2.2⟩ (fun hHeld => ?_)
          clear hK K
          refine nS_ ?_
          refine pS_ 19 39 (any_of HT_.out (by kernel_rfl)) rfl rfl ?_
          refine last_ (i := 20) (N := none) #[true, true, true, true, true, true, true, true, true, true, true, true, true, true, true, true, true, true, true, true, true] rfl rfl (one_of HT_.out (by kernel_rfl)) (by decide) (fun K hK => ?_)
          refine skip_ (w1 := ?_) (by rfl) rfl ?_ ?_
          rotate_left
          ·go_simp
           rfl
          refine hK.out _ _ ?_
          clear hK K
          refine done_ (done_of HT_.out (by kernel_rfl)) ?_
          try go_wp2
          (try simp only [← hl6_1])
          go_roundg k1
          case measure => have := HK1.out; omega
          case rel => exact ⟨(y120), (wrap64 (x17_1 + 1)), (by first | rfl | (simp; done) | (simp [*]; done)), H', ⟨by have := HK1.out; omega⟩, ⟨by (try simp only [hl6_1]); (with_reducible repeat (first | apply Kd.R_alloc | apply Kd.R_drewN | apply Kd.R_drew)); exact Kd.R_mono (Kd.R_far (p := ⟨go19, (x17_1 : Int).toNat, none⟩) (Kd.R_mono HO_1.out (fun k_ hk => (⟨hk, fun e_ => hk.2 (by rw [e_]; rfl)⟩ : _ ∧ k_ ≠ go19))) (fun _ hk => hk.2) (.int .u64 t119)) (fun _ hk => ⟨hk.1.1, hk.1.2⟩)⟩, ⟨by (try simp only [hl6_1]); (with_reducible repeat (first | apply Kd.R_alloc | apply Kd.R_drewN | apply Kd.R_drew)); exact HQ23.out⟩, ⟨by (try simp only [hl6_1]); (with_reducible repeat (first | refine blk_drewN ?_ _ | refine blk_drew ?_ | refine blk_alloc ?_ _)); refine blk_far ?_ (by have h_ := Kd.R_ne HO_6.out BK113.out (by decide); intro e_; exact h_ (by rw [e_]; rfl)) _; (with_reducible repeat (first | refine blk_drewN ?_ _ | refine blk_drew ?_ | refine blk_alloc ?_ _)); exact BK113.out⟩, ⟨by repeat (first | (with_reducible first | exact HK.out | apply Kept.alloc | apply Kept.drewN | apply Kept.drew | refine Kept.setCell ?_ HMgo19.out _ | refine Kept.setCell ?_ (.inr GW113.out) _) | exact HK.out)⟩, ⟨by repeat (first | (with_reducible first | exact HB.out | apply below_alloc | apply pw_below_drewN | apply below_drew1 | refine below_set ?_ GB19.out | refine below_set ?_ GE113.out) | exact HB.out)⟩⟩
         ·rw [if_neg c18] at H
          exact absurd H (by simp)
        ·rw [if_neg c17] at H
         exact absurd H (by simp)
       ·rw [if_neg c15] at H
        exact absurd H (by simp)
      ·rw [if_neg c14] at H
       exact absurd H (by simp)
     ·rw [if_neg c11] at H
      have c11b0 : decide (x17_1 < (y114.length : Int)) = false := decide_eq_false c11
      (try (have c11b0hl6_1 := c11b0; simp only [hl6_1] at c11b0hl6_1))
      clear c11
      have H' := Aside0.mk H
      clear H
      go_wp2
      go_loopg [43] k1 (fun kq v43 w' => ∃ (x1_2 : List Int) (x43_2 : Int), v43 = .int .i64 x43_2 ∧ Aside0 (mixed_stage_oneW.l1 s9 n9 kq x1_2 a2 x6_1 (x6_1.length : Int) x43_2 l0_0 l0_1 a0_2 a0_3 = some r) ∧ Aside0 (kq ≤ k1) ∧ Aside0 (Kd.R (Kd.int .u64) 31 w' w0.heap.size (fun k_ => (P1_ k_ ∨ w.heap.size ≤ k_) ∧ some k_ ≠ ((.slice Ao10 x6_1.length co10) : Value).ownBlock) (.slice (some ⟨g9, 0, none⟩) l1.length co9) x1_2) ∧ Aside0 (Kd.R (Kd.int .u64) 31 w' w0.heap.size (fun k_ => (P1_ k_ ∨ w.heap.size ≤ k_) ∧ some k_ ≠ ((.slice (some ⟨g9, 0, none⟩) l1.length co9) : Value).ownBlock) (.slice Ao10 x6_1.length co10) x6_1) ∧ Aside0 (w'.heap[gb113]? = some (.cells #[(toPtr (.slice A0_0 l0_0.length c0_0)), (.slice A0_1 l0_1.length c0_1), .int .i64 a0_2, .int .i64 a0_3] 46 (0, 0))) ∧ Aside0 (Kept w w' (fun k_ => P1_ k_)) ∧ Aside0 (Below w0.heap.size w0 w'))
      case atStart => exact ⟨(l1), (0), (by first | rfl | (simp; done) | (simp [*]; done)), H', ⟨Nat.le_refl _⟩, ⟨by (try simp only [hl6_1]); (with_reducible repeat (first | apply Kd.R_alloc | apply Kd.R_drewN | apply Kd.R_drew)); exact HO_1.out⟩, ⟨by (try simp only [hl6_1]); (with_reducible repeat (first | apply Kd.R_alloc | apply Kd.R_drewN | apply Kd.R_drew)); exact HO_6.out⟩, ⟨by (try simp only [hl6_1]); (with_reducible repeat (first | refine blk_drewN ?_ _ | refine blk_drew ?_ | refine blk_alloc ?_ _)); exact BK113.out⟩, ⟨by repeat (first | (with_reducible first | exact HK.out | apply Kept.alloc | apply Kept.drewN | apply Kept.drew | refine Kept.setCell ?_ (.inr GW113.out) _) | exact HK.out)⟩, ⟨by repeat (first | (with_reducible first | exact HB.out | apply below_alloc | apply pw_below_drewN | apply below_drew1 | refine below_set ?_ GE113.out) | exact HB.out)⟩⟩
      case round =>
       clear H'
       try clear c1
       try clear p1
       try clear q1
       try clear hx1
       try clear p2
       try clear c3
       try clear c4
       try clear c4b0
       try clear c4b1
       try clear c5
       try clear c5b0
       try clear c5b1
       try clear p6
       try clear c11
       try clear c11b0
       try clear p11
       try clear q11
       try clear hx11
       try clear c14
       try clear c14b0
       try clear c15
       try clear c15b0
       try clear c17
       try clear c17b0
       try clear c18
       try clear c18b0
       try clear p19
       try clear q19
       try clear hx19
       try clear hf19
       try clear hcz7_0
       try clear hcz7_1
       try clear hcz7_2
       try clear hcz7_3
       try clear hfz7_0
       try clear hfz7_1
       try clear hfz7_2
       try clear hfz7_3
       try clear hx118_0
       try clear hx19_0
       try clear p118
       try clear p19
       try clear p2
       try clear q118
       try clear q19
       obtain ⟨x1_2, x43_2, rfl, HA, HK2, HO_1, HO_6, BK113, HK, HB⟩ := hrel
       cases gk with
       | zero => exact absurd HA.out (by simp [mixed_stage_oneW.l1])
       | succ k2 =>
        have H := HA.out
        clear HA
        simp only [mixed_stage_oneW.l1] at H
        by_cases c24 : x43_2 < (x6_1.length : Int)
        ·rw [if_pos c24] at H
         have c24b0 : decide (x43_2 < (x6_1.length : Int)) = true := decide_eq_true c24
         (try (have c24b0hl6_1 := c24b0; simp only [hl6_1] at c24b0hl6_1))
         clear c24
         have H' := Aside0.mk H
         clear H
         go_wp2
         go_loopg [9, 48] k2 (fun kq v9 v48 w' => ∃ (x9_3 : Int) (x48_3 : Int), v9 = .int .u64 x9_3 ∧ v48 = .int .i64 x48_3 ∧ Aside0 (mixed_stage_oneW.l2 s9 n9 kq x1_2 a2 x6_1 x43_2 x9_3 (x6_1.length : Int) x43_2 x6_1 (x6_1.length : Int) x48_3 l0_0 l0_1 a0_2 a0_3 = some r) ∧ Aside0 (kq ≤ k2) ∧ Aside0 (Kd.R (Kd.int .u64) 31 w' w0.heap.size (fun k_ => (P1_ k_ ∨ w.heap.size ≤ k_) ∧ some k_ ≠ ((.slice Ao10 x6_1.length co10) : Value).ownBlock ∧ some k_ ≠ ((.slice Ao10 x6_1.length co10) : Value).ownBlock) (.slice (some ⟨g9, 0, none⟩) l1.length co9) x1_2) ∧ Aside0 (Kd.R (Kd.int .u64) 31 w' w0.heap.size (fun k_ => (P1_ k_ ∨ w.heap.size ≤ k_) ∧ some k_ ≠ ((.slice (some ⟨g9, 0, none⟩) l1.length co9) : Value).ownBlock) (.slice Ao10 x6_1.length co10) x6_1) ∧ Aside0 (Kd.R (Kd.int .u64) 31 w' w0.heap.size (fun k_ => (P1_ k_ ∨ w.heap.size ≤ k_) ∧ some k_ ≠ ((.slice (some ⟨g9, 0, none⟩) l1.length co9) : Value).ownBlock) (.slice Ao10 x6_1.length co10) x6_1) ∧ Aside0 (w'.heap[gb113]? = some (.cells #[(toPtr (.slice A0_0 l0_0.length c0_0)), (.slice A0_1 l0_1.length c0_1), .int .i64 a0_2, .int .i64 a0_3] 46 (0, 0))) ∧ Aside0 (Kept w w' (fun k_ => P1_ k_)) ∧ Aside0 (Below w0.heap.size w0 w'))
         case atStart => exact ⟨(0), (0), (by first | rfl | (simp; done) | (simp [*]; done)), (by first | rfl | (simp; done) | (simp [*]; done)), H', ⟨Nat.le_refl _⟩, ⟨by (try simp only [hl6_1]); (with_reducible repeat (first | apply Kd.R_alloc | apply Kd.R_drewN | apply Kd.R_drew)); exact Kd.R_mono HO_1.out (fun _ hk => ⟨hk.1, ⟨hk.2, hk.2⟩⟩)⟩, ⟨by (try simp only [hl6_1]); (with_reducible repeat (first | apply Kd.R_alloc | apply Kd.R_drewN | apply Kd.R_drew)); exact HO_6.out⟩, ⟨by (try simp only [hl6_1]); (with_reducible repeat (first | apply Kd.R_alloc | apply Kd.R_drewN | apply Kd.R_drew)); exact HO_6.out⟩, ⟨by (try simp only [hl6_1]); (with_reducible repeat (first | refine blk_drewN ?_ _ | refine blk_drew ?_ | refine blk_alloc ?_ _)); exact BK113.out⟩, ⟨by repeat (first | (with_reducible first | exact HK.out | apply Kept.alloc | apply Kept.drewN | apply Kept.drew | refine Kept.setCell ?_ (.inr GW113.out) _) | exact HK.out)⟩, ⟨by repeat (first | (with_reducible first | exact HB.out | apply below_alloc | apply pw_below_drewN | apply below_drew1 | refine below_set ?_ GE113.out) | exact HB.out)⟩⟩
         case round =>
          clear H'
          try clear c1
          try clear p1
          try clear q1
          try clear hx1
          try clear c2
          try clear p2
          try clear c3
          try clear c4
          try clear c4b0
          try clear c4b1
          try clear c5
          try clear c5b0
          try clear c5b1
          try clear p6
          try clear c11
          try clear c11b0
          try clear p11
          try clear q11
          try clear hx11
          try clear c14
          try clear c14b0
          try clear c15
          try clear c15b0
          try clear c17
          try clear c17b0
          try clear c18
          try clear c18b0
          try clear p19
          try clear q19
          try clear hx19
          try clear hf19
          try clear c24
          try clear c24b0
          try clear hcz7_0
          try clear hcz7_1
          try clear hcz7_2
          try clear hcz7_3
          try clear hfz7_0
          try clear hfz7_1
          try clear hfz7_2
          try clear hfz7_3
          try clear hx118_0
          try clear hx19_0
          try clear p1
          try clear p11
          try clear p118
          try clear p19
          try clear p2
          try clear p6
          try clear q1
          try clear q11
          try clear q118
          try clear q19
          obtain ⟨x9_3, x48_3, rfl, rfl, HA, HK3, HO_1, HO_6, HO_46, BK113, HK, HB⟩ := hrel
          cases gk with
          | zero => exact absurd HA.out (by simp [mixed_stage_oneW.l2])
          | succ k3 =>
           have H := HA.out
           clear HA
           simp only [mixed_stage_oneW.l2] at H
           by_cases c25 : x48_3 < (x6_1.length : Int)
           ·rw [if_pos c25] at H
            have c25b0 : decide (x48_3 < (x6_1.length : Int)) = true := decide_eq_true c25
            (try (have c25b0hl6_1 := c25b0; simp only [hl6_1] at c25b0hl6_1))
            clear c25
            by_cases c26 : 0 ≤ x48_3
            ·rw [if_pos c26] at H
             have c26b0 : decide (0 ≤ x48_3) = true := decide_eq_true c26
             clear c26
             by_cases c27 : x48_3 < (x6_1.length : Int)
             ·rw [if_pos c27] at H
              have c27b0 : decide (x48_3 < (x6_1.length : Int)) = true := decide_eq_true c27
              (try (have c27b0hl6_1 := c27b0; simp only [hl6_1] at c27b0hl6_1))
              clear c27
              replace H := Option.bind_eq_some_iff.mp H
              obtain ⟨t123, A280, H⟩ := H
              replace H : ((field_Field_Times.f l0_0 t123 (rd x6_1 x48_3)).bind fun t124 => ((field_Field_Add.f l0_0 x9_3 t124).bind fun t125 => (mixed_stage_oneW.l2 s9 n9 k3 x1_2 a2 x6_1 x43_2 t125 (x6_1.length : Int) x43_2 x6_1 (x6_1.length : Int) (wrap64 (x48_3 + 1)) l0_0 l0_1 a0_2 a0_3))) = some r := H
              have A28 := Aside0.mk A280
              clear A280
              replace H := Option.bind_eq_some_iff.mp H
              obtain ⟨t124, A290, H⟩ := H
              replace H : ((field_Field_Add.f l0_0 x9_3 t124).bind fun t125 => (mixed_stage_oneW.l2 s9 n9 k3 x1_2 a2 x6_1 x43_2 t125 (x6_1.length : Int) x43_2 x6_1 (x6_1.length : Int) (wrap64 (x48_3 + 1)) l0_0 l0_1 a0_2 a0_3)) = some r := H
              have A29 := Aside0.mk A290
              clear A290
              replace H := Option.bind_eq_some_iff.mp H
              obtain ⟨t125, A300, H⟩ := H
              replace H : (mixed_stage_oneW.l2 s9 n9 k3 x1_2 a2 x6_1 x43_2 t125 (x6_1.length : Int) x43_2 x6_1 (x6_1.length : Int) (wrap64 (x48_3 + 1)) l0_0 l0_1 a0_2 a0_3) = some r := H
              have A30 := Aside0.mk A300
              clear A300
              have H' := Aside0.mk H
              clear H
              have p122 : 0 ≤ (x48_3 : Int) := of_decide_eq_true (by first | (with_reducible assumption) | assumption)
              have q122 : x48_3 < (x6_1.length : Int) := of_decide_eq_true (by first | (with_reducible assumption) | assumption)
              obtain ⟨ad122, e122, hx122_0⟩ := Kd.at_int (Kd.R_reads' HO_46.out).2.2 x48_3 p122 q122
              cases e122
              replace p122 := eq_true p122
              replace q122 := eq_true q122
              try go_wp2
              have n0_ := Aside0.mk (Kd.R_drew HO_1.out)
              have n1_ := Aside0.mk (Kd.R_drew HO_6.out)
              have n2_ := Aside0.mk (Kd.R_drew HO_46.out)
              have n3_ := Aside0.mk (blk_drew BK113.out)
              have n4_ := Aside0.mk (Kept.drew HK.out)
              have n5_ := Aside0.mk (below_drew1 HB.out)
              clear HO_1
              clear HO_6
              clear HO_46
              clear BK113
              clear HK
              clear HB
              have HO_1 := n0_
              have HO_6 := n1_
              have HO_46 := n2_
              have BK113 := n3_
              have HK := n4_
              have HB := n5_
              clear n0_ n1_ n2_ n3_ n4_ n5_
              refine start_ (n := 17) (S := fun w' => w'.cell? ⟨gb113, 0, none⟩ = some (toPtr (.slice A0_0 l0_0.length c0_0)) ∧ w'.cell? ⟨gb113, 1, none⟩ = some (.slice A0_1 l0_1.length c0_1) ∧ w'.cell? ⟨gb113, 2, none⟩ = some (.int .i64 a0_2) ∧ w'.cell? ⟨gb113, 3, none⟩ = some (.int .i64 a0_3)) (ds := []) #[false, false, false, false, false, false, false, false, false, false, false, false, false, false, false, false, false] (by kernel_rfl) rfl rfl ⟨(blk_cell BK113.out 0).trans rfl, (blk_cell BK113.out 1).trans rfl, (blk_cell BK113.out 2).trans rfl, (blk_cell BK113.out 3).trans rfl⟩ (fun hHeld => ?_); refine with_tabW mixed_stage_oneW.tab14 mixed_stage_oneW.bits14 (fun HT_ HW_ => ?_)
              generalize wr.drew = w31 at HO_1 HO_6 HO_46 BK113 HK HB hHeld ⊢
              refine pS_ 0 53 (any_of HT_.out (by kernel_rfl)) rfl rfl ?_
              refine pS_ 2 55 (any_of HT_.out (by kernel_rfl)) rfl rfl ?_
              refine pS_ 3 56 (any_of HT_.out (by kernel_rfl)) rfl rfl ?_
              refine pS_ 6 59 (any_of HT_.out (by kernel_rfl)) rfl rfl ?_
              refine pS_ 7 60 (any_of HT_.out (by kernel_rfl)) rfl rfl ?_
              refine pS_ 8 61 (any_of HT_.out (by kernel_rfl)) rfl rfl ?_
              refine pS_ 9 62 (any_of HT_.out (by kernel_rfl)) rfl rfl ?_
              refine pS_ 13 66 (any_of HT_.out (by kernel_rfl)) rfl rfl ?_
              refine tS_ 1 54 (take_ofW HT_.out HW_.out (by kernel_rfl)) hHeld (by rintro w' ⟨s0, s1, s2, s3⟩; go_simp; with_reducible rfl) rfl rfl ?_
              refine tS_ 4 57 (take_ofW HT_.out HW_.out (by kernel_rfl)) hHeld (by rintro w' ⟨s0, s1, s2, s3⟩; go_simp; with_reducible rfl) rfl rfl ?_
              refine tS_ 5 58 (take_ofW HT_.out HW_.out (by kernel_rfl)) hHeld (by rintro w' ⟨s0, s1, s2, s3⟩; go_simp; with_reducible rfl) rfl rfl ?_
              refine tS_ 10 63 (take_ofW HT_.out HW_.out (by kernel_rfl)) hHeld (by rintro w' ⟨s0, s1, s2, s3⟩; go_simp; with_reducible rfl) rfl rfl ?_
              refine pS_ 11 64 (any_of HT_.out (by kernel_rfl)) rfl rfl ?_
              refine one_ (i := 12) (N := some 65) #[true, true, true, true, true, true, true, true, true, true, true, true, true, true, false, false, false] rfl rfl (one_of HT_.out (by kernel_rfl)) (by decide) (fun K hK => ?_)
              refine goes_ Try.func46 (by kernel_rfl) rfl #[.agg #[toPtr (.slice A0_0 l0_0.length c0_0), .slice A0_1 l0_1.length c0_1, .int .i64 a0_2, .int .i64 a0_3], .int .i64 (wrap64 ((wrap64 (x48_3 * x43_2)) * a0_3))] (by rfl) rfl rfl (by (try simp only [List.map_toArray, List.map_cons, List.map_nil]); first | done | (rw [hT_HR0_0] <;> rfl) | (rw [hT_HR0_0] <;> rfl) | rfl | (simp only [List.length_drop, List.length_take]; rfl)) ?_
              (try rw [← hT_HR0_0])
              with_reducible refine (mixed_stage_lift.calls _ _ l0_0 _ _ l0_1 a0_2 a0_3 (wrap64 ((wrap64 (x48_3 * x43_2)) * a0_3)) t123 _ ?side1 ?side2 ?side3 ?side4 A28.out).mono ?_
              (case side1 => exact Kd.C_kept_now HR0_0.out (by repeat (first | (with_reducible first | exact HK.out | apply Kept.alloc | apply Kept.drewN | apply Kept.drew | refine Kept.setCell ?_ (.inr GW113.out) _) | exact HK.out)))
              (case side2 => exact HC0_0.out)
              (case side3 => exact Kd.C_kept_now HR0_1.out (by repeat (first | (with_reducible first | exact HK.out | apply Kept.alloc | apply Kept.drewN | apply Kept.drew | refine Kept.setCell ?_ (.inr GW113.out) _) | exact HK.out)))
              (case side4 => exact HC0_1.out)
              rintro e w32 ⟨rfl, hb⟩
              refine ⟨_, rfl, ?_⟩
              have n0_ := Aside0.mk (Kd.R_below (by (with_reducible repeat (first | apply Kd.R_alloc | apply Kd.R_drewN | apply Kd.R_drew)); exact HO_1.out) hb)
              have n1_ := Aside0.mk (Kd.R_below (by (with_reducible repeat (first | apply Kd.R_alloc | apply Kd.R_drewN | apply Kd.R_drew)); exact HO_6.out) hb)
              have n2_ := Aside0.mk (Kd.R_below (by (with_reducible repeat (first | apply Kd.R_alloc | apply Kd.R_drewN | apply Kd.R_drew)); exact HO_46.out) hb)
              have n3_ := Aside0.mk (blk_below (g := gb113) (o := .cells #[toPtr (.slice A0_0 l0_0.length c0_0), .slice A0_1 l0_1.length c0_1, .int .i64 a0_2, .int .i64 a0_3] 46 (0, 0)) (by (with_reducible repeat (first | refine blk_drewN ?_ _ | refine blk_drew ?_ | refine blk_alloc ?_ _)); exact BK113.out) hb)
              have n4_ := Aside0.mk (Kept.below (S := (fun k_ => P1_ k_)) (by repeat (first | (with_reducible first | exact HK.out | apply Kept.alloc | apply Kept.drewN | apply Kept.drew | refine Kept.setCell ?_ (.inr GW113.out) _) | exact HK.out)) hb)
              have n5_ := Aside0.mk (below_step (by repeat (first | (with_reducible first | exact HB.out | apply below_alloc | apply pw_below_drewN | apply below_drew1 | refine below_set ?_ GE113.out) | exact HB.out)) hb)
              clear HO_1
              clear HO_6
              clear HO_46
              clear BK113
              clear HK
              clear HB
              have HO_1 := n0_
              have HO_6 := n1_
              have HO_46 := n2_
              have BK113 := n3_
              have HK := n4_
              have HB := n5_
              clear n0_ n1_ n2_ n3_ n4_ n5_
              (try clear hb)
              (try clear hb2)
              (try clear hk)
              (try clear hi)
              refine hK.out _ _ ⟨(blk_cell BK113.out 0).trans rfl, (blk_cell BK113.out 1).trans rfl, (blk_cell BK113.out 2).trans rfl, (blk_cell BK113.out 3).trans rfl⟩ (fun hHeld => ?_)
              clear hK K
              refine nS_ ?_
              refine one_ (i := 14) (N := some 67) #[true, true, true, true, true, true, true, true, true, true, true, true, true, true, true, false, false] rfl rfl (one_of HT_.out (by kernel_rfl)) (by decide) (fun K hK => ?_)
              refine goes_ Try.func33 (by kernel_rfl) rfl #[toPtr (.slice A0_0 l0_0.length c0_0), .int .u64 t123, .int .u64 (rd x6_1 x48_3)] (by rfl) rfl rfl (by (try simp only [List.map_toArray, List.map_cons, List.map_nil]); first | done | (rw [hT_HR0_0] <;> rfl) | (rw [hT_HR0_0] <;> rfl) | rfl | (simp only [List.length_drop, List.length_take]; rfl)) ?_
              (try rw [← hT_HR0_0])
              with_reducible refine (field_Field_Times.calls _ _ l0_0 t123 (rd x6_1 x48_3) t124 _ ?side1 ?side2 A29.out).mono ?_
              (case side1 => exact Kd.C_kept_now HR0_0.out (by repeat (first | (with_reducible first | exact HK.out | apply Kept.alloc | apply Kept.drewN | apply Kept.drew | refine Kept.setCell ?_ (.inr GW113.out) _) | exact HK.out)))
              (case side2 => exact HC0_0.out)
              rintro e w' ⟨rfl, ⟨nd, rfl⟩⟩
              refine ⟨_, rfl, ?_⟩
              refine hK.out _ _ ⟨(blk_cell BK113.out 0).trans rfl, (blk_cell BK113.out 1).trans rfl, (blk_cell BK113.out 2).trans rfl, (blk_cell BK113.out 3).trans rfl⟩ (fun hHeld => ?_)
              clear hK K
              refine nS_ ?_
              refine one_ (i := 15) (N := some 68) #[true, true, true, true, true, true, true, true, true, true, true, true, true, true, true, true, false] rfl rfl (one_of HT_.out (by kernel_rfl)) (by decide) (fun K hK => ?_)
              refine goes_ Try.func47 (by kernel_rfl) rfl #[toPtr (.slice A0_0 l0_0.length c0_0), .int .u64 x9_3, .int .u64 t124] (by rfl) rfl rfl (by (try simp only [List.map_toArray, List.map_cons, List.map_nil]); first | done | (rw [hT_HR0_0] <;> rfl) | (rw [hT_HR0_0] <;> rfl) | rfl | (simp only [List.length_drop, List.length_take]; rfl)) ?_
              (try rw [← hT_HR0_0])
              with_reducible refine (field_Field_Add.calls _ _ l0_0 x9_3 t124 t125 _ ?side1 ?side2 A30.out).mono ?_
              (case side1 => exact Kd.C_kept_now HR0_0.out (by repeat (first | (with_reducible first | exact HK.out | apply Kept.alloc | apply Kept.drewN | apply Kept.drew | refine Kept.setCell ?_ (.inr GW113.out) _) | exact HK.out)))
              (case side2 => exact HC0_0.out)
              rintro e w' ⟨rfl, ⟨nd, rfl⟩⟩
              refine ⟨_, rfl, ?_⟩
              refine hK.out _ _ ⟨(blk_cell BK113.out 0).trans rfl, (blk_cell BK113.out 1).trans rfl, (blk_cell BK113.out 2).trans rfl, (blk_cell BK113.out 3).trans rfl⟩ (fun hHeld => ?_)
              clear hK K
              refine nS_ ?_
              refine pS_ 16 9 (any_of HT_.out (by kernel_rfl)) rfl rfl ?_
              refine done_ (done_of HT_.out (by kernel_rfl)) ?_
              try go_wp2
              go_roundg k3
              case measure => have := HK1.out; have := HK2.out; have := HK3.out; omega
              case rel => exact ⟨(t125), (wrap64 (x48_3 + 1)), (by first | rfl | (simp; done) | (simp [*]; done)), (by first | rfl | (simp; done) | (simp [*]; done)), H', ⟨by have := HK1.out; have := HK2.out; have := HK3.out; omega⟩, ⟨by (try simp only [hl6_1]); (with_reducible repeat (first | apply Kd.R_alloc | apply Kd.R_drewN | apply Kd.R_drew)); exact HO_1.out⟩, ⟨by (try simp only [hl6_1]); (with_reducible repeat (first | apply Kd.R_alloc | apply Kd.R_drewN | apply Kd.R_drew)); exact HO_6.out⟩, ⟨by (try simp only [hl6_1]); (with_reducible repeat (first | apply Kd.R_alloc | apply Kd.R_drewN | apply Kd.R_drew)); exact HO_46.out⟩, ⟨by (try simp only [hl6_1]); (with_reducible repeat (first | refine blk_drewN ?_ _ | refine blk_drew ?_ | refine blk_alloc ?_ _)); exact BK113.out⟩, ⟨by repeat (first | (with_reducible first | exact HK.out | apply Kept.alloc | apply Kept.drewN | apply Kept.drew | refine Kept.setCell ?_ (.inr GW113.out) _) | exact HK.out)⟩, ⟨by repeat (first | (with_reducible first | exact HB.out | apply below_alloc | apply pw_below_drewN | apply below_drew1 | refine below_set ?_ GE113.out) | exact HB.out)⟩⟩
             ·rw [if_neg c27] at H
              exact absurd H (by simp)
            ·rw [if_neg c26] at H
             exact absurd H (by simp)
           ·rw [if_neg c25] at H
            have c25b0 : decide (x48_3 < (x6_1.length : Int)) = false := decide_eq_false c25
            (try (have c25b0hl6_1 := c25b0; simp only [hl6_1] at c25b0hl6_1))
            clear c25
            obtain ⟨ji33, hji33⟩ : ∃ j_ : Int, (wrap64 ((wrap64 (x43_2 * a0_3)) + a2)) = j_ := ⟨_, rfl⟩
            replace H : (if 0 ≤ (ji33) then (if (ji33) < (n9 : Int) then (mixed_stage_oneW.l1 s9 n9 k3 (x1_2.set (s9 + ((ji33) : Int).toNat) x9_3) a2 x6_1 (x6_1.length : Int) (wrap64 (x43_2 + 1)) l0_0 l0_1 a0_2 a0_3) else (none)) else (none)) = some r := by first | (rw [hji33] at H <;> exact H) | (simp only [hji33] at H ⊢; exact H)
            have hji33v : (IntKind.i64.wrap ((IntKind.i64.wrap (x43_2 * a0_3)) + a2)) = ji33 := by simp only [i64_w]; exact hji33
            have hji33w : (IntKind.i64.wrap ((wrap64 (x43_2 * a0_3)) + a2)) = ji33 := (i64_w _).trans hji33
            by_cases c34 : 0 ≤ (ji33)
            ·rw [if_pos c34] at H
             have c34b0 : decide (0 ≤ (ji33)) = true := decide_eq_true c34
             clear c34
             by_cases c35 : (ji33) < (n9 : Int)
             ·rw [if_pos c35] at H
              have c35b0 : decide ((ji33) < (n9 : Int)) = true := decide_eq_true c35
              (try (have c35b0hl6_1 := c35b0; simp only [hl6_1] at c35b0hl6_1))
              clear c35
              obtain ⟨y121, hy121⟩ : ∃ y_ : List Int, y_ = (x1_2.set (s9 + ((ji33) : Int).toNat) x9_3) := ⟨_, rfl⟩
              replace H : (mixed_stage_oneW.l1 s9 n9 k3 y121 a2 x6_1 (x6_1.length : Int) (wrap64 (x43_2 + 1)) l0_0 l0_1 a0_2 a0_3) = some r := by first | (rw [hy121]; with_reducible exact H) | (have H2_ := (Option.bind_some _ _).symm.trans H; rw [hy121]; with_reducible exact H2_) | (have H2_ := (Option.bind_some _ _).symm.trans H; with_reducible exact H2_) | with_reducible exact H | (rw [hy121]; exact H) | exact H
              have Ny121 := Aside0.mk hy121
              clear hy121
              have H' := Aside0.mk H
              clear H
              have hcz37_0 : wr.cell? ⟨gb113, 0, none⟩ = some (toPtr (.slice A0_0 l0_0.length c0_0)) := (blk_cell BK113.out 0).trans rfl
              have hcz37_1 : wr.cell? ⟨gb113, 1, none⟩ = some (.slice A0_1 l0_1.length c0_1) := (blk_cell BK113.out 1).trans rfl
              have hcz37_2 : wr.cell? ⟨gb113, 2, none⟩ = some (.int .i64 a0_2) := (blk_cell BK113.out 2).trans rfl
              have hcz37_3 : wr.cell? ⟨gb113, 3, none⟩ = some (.int .i64 a0_3) := (blk_cell BK113.out 3).trans rfl
              have hfz37_0 := blk_frozen BK113.out 0
              have hfz37_1 := blk_frozen BK113.out 1
              have hfz37_2 := blk_frozen BK113.out 2
              have hfz37_3 := blk_frozen BK113.out 3
              have p36 : 0 ≤ ((ji33) : Int) := of_decide_eq_true (by first | (with_reducible assumption) | assumption)
              have q36 : ((ji33) : Int) < ((n9 : Int) : Int) := of_decide_eq_true (by first | (with_reducible assumption) | assumption)
              obtain ⟨gb36, cl36, HG36⟩ := win_form HO_1.out HS9.out p36 q36
              have GB36 := Aside0.mk gb36
              have GG36 := Aside0.mk HG36
              clear gb36 HG36
              have HMg9 := Aside0.mk (show (P1_ g9 ∨ w.heap.size ≤ g9) from (HO_1.out.1 _ rfl).1)
              obtain ⟨hx36_0, hf36_0⟩ := win_rd HO_1.out HS9.out ((ji33) : Int) p36 q36
              have p36' : 0 ≤ ((ji33) : Int) := p36
              replace p36 := eq_true p36
              replace q36 := eq_true q36
              have HP38 := win_put HO_1.out (s := s9) ((ji33) : Int) x9_3 p36'
              go_wp2_with (first | ((with_reducible refine gate_store (t := 31) (p := 78) rfl ?_); refine store_event (t := 31) (p := 78) (v := ?vo_w39) (w1 := (wr.setCell ⟨g9, s9 + ((ji33) : Int).toNat, none⟩ (.int .u64 x9_3))) ?hg ?ho ?hn ?hr ?_; (case ho => rfl); (case hg => rfl); (case hn => rfl); (case hr => first | (go_simp; done) | (go_simp; rfl)); intro w39 hw; have hg : wr.grownBy w39 (some g9) := (by rw [hw]; exact HP38.2); have hp_ : Kd.R (Kd.int .u64) 31 w39 w0.heap.size (fun k_ => (P1_ k_ ∨ w.heap.size ≤ k_) ∧ some k_ ≠ (.slice Ao10 x6_1.length co10 : Value).ownBlock ∧ some k_ ≠ (.slice Ao10 x6_1.length co10 : Value).ownBlock) (.slice (some ⟨g9, 0, none⟩) l1.length co9) y121 := (by rw [hw, Ny121.out]; exact HP38.1); clear HP38; have n0_ := Aside0.mk (hp_); have n1_ := Aside0.mk (Kd.R_after (v := (.slice (some ⟨g9, 0, none⟩) l1.length co9)) (v1 := (.slice (some ⟨g9, 0, none⟩) l1.length co9)) (ok := (fun k_ => (P1_ k_ ∨ w.heap.size ≤ k_))) (by (with_reducible repeat (first | apply Kd.R_alloc | apply Kd.R_drewN | apply Kd.R_drew)); exact HO_6.out) hg (.inl rfl)); have n2_ := Aside0.mk (Kd.R_after (v := (.slice (some ⟨g9, 0, none⟩) l1.length co9)) (v1 := (.slice (some ⟨g9, 0, none⟩) l1.length co9)) (ok := (fun k_ => (P1_ k_ ∨ w.heap.size ≤ k_))) (by (with_reducible repeat (first | apply Kd.R_alloc | apply Kd.R_drewN | apply Kd.R_drew)); exact HO_46.out) hg (.inl rfl)); have n3_ := Aside0.mk (blk_grown (g := gb113) (o := .cells #[toPtr (.slice A0_0 l0_0.length c0_0), .slice A0_1 l0_1.length c0_1, .int .i64 a0_2, .int .i64 a0_3] 46 (0, 0)) (by (with_reducible repeat (first | refine blk_drewN ?_ _ | refine blk_drew ?_ | refine blk_alloc ?_ _)); exact BK113.out) hg (Kd.R_ne HO_1.out BK113.out (by decide))); have n4_ := Aside0.mk ((by rw [hw]; exact below_set (HB.out) GB36.out : Below w0.heap.size w0 w39)); have n5_ := Aside0.mk (Kept.of_grown (S := (fun k_ => P1_ k_)) hg (by repeat (first | (with_reducible first | exact HK.out | apply Kept.alloc | apply Kept.drewN | apply Kept.drew | refine Kept.setCell ?_ (.inr GW113.out) _) | exact HK.out)) (fun k_ e_ => (HO_1.out.1 k_ e_).1)); clear HO_1; clear HO_6; clear HO_46; clear BK113; clear HB; clear HK; have HO_1 := n0_; have HO_6 := n1_; have HO_46 := n2_; have BK113 := n3_; have HB := n4_; have HK := n5_; clear n0_ n1_ n2_ n3_ n4_ n5_; clear hg hw hp_))
              go_roundg k3
              case measure => have := HK1.out; have := HK2.out; have := HK3.out; omega
              case rel => exact ⟨(y121), (wrap64 (x43_2 + 1)), (by first | rfl | (simp; done) | (simp [*]; done)), H', ⟨by have := HK1.out; have := HK2.out; have := HK3.out; omega⟩, ⟨by (try simp only [hl6_1]); (with_reducible repeat (first | apply Kd.R_alloc | apply Kd.R_drewN | apply Kd.R_drew)); exact Kd.R_mono HO_1.out (fun _ hk => ⟨hk.1, hk.2.1⟩)⟩, ⟨by (try simp only [hl6_1]); (with_reducible repeat (first | apply Kd.R_alloc | apply Kd.R_drewN | apply Kd.R_drew)); exact HO_6.out⟩, ⟨by (try simp only [hl6_1]); (with_reducible repeat (first | refine blk_drewN ?_ _ | refine blk_drew ?_ | refine blk_alloc ?_ _)); exact BK113.out⟩, ⟨by repeat (first | (with_reducible first | exact HK.out | apply Kept.alloc | apply Kept.drewN | apply Kept.drew | refine Kept.setCell ?_ (.inr GW113.out) _) | exact HK.out)⟩, ⟨by repeat (first | (with_reducible first | exact HB.out | apply below_alloc | apply pw_below_drewN | apply below_drew1 | refine below_set ?_ GE113.out) | exact HB.out)⟩⟩
             ·rw [if_neg c35] at H
              exact absurd H (by simp)
            ·rw [if_neg c34] at H
             exact absurd H (by simp)
        ·rw [if_neg c24] at H
         have c24b0 : decide (x43_2 < (x6_1.length : Int)) = false := decide_eq_false c24
         (try (have c24b0hl6_1 := c24b0; simp only [hl6_1] at c24b0hl6_1))
         clear c24
         obtain rfl := Option.some.inj H
         go_wp2
         first | go_end0 | ((try simp only [Exit.inBlock, Exit.then]); refine bodyPost_ret (results_none rfl _ _ _) rfl ?_)
         exact ⟨by first | rfl | (simp [errW_none, errW_some] <;> rfl) | (simp [*, errW_none, errW_some] <;> rfl), (by first | exact (by (with_reducible repeat (first | apply Kd.R_alloc | apply Kd.R_drewN | apply Kd.R_drew)); exact Kd.R_mono HO_1.out (fun _ hk => hk.1)) | (simp only [hl6_1]; exact (by (with_reducible repeat (first | apply Kd.R_alloc | apply Kd.R_drewN | apply Kd.R_drew)); exact Kd.R_mono HO_1.out (fun _ hk => hk.1)))), by repeat (first | (with_reducible first | exact HB.out | apply below_alloc | apply pw_below_drewN | apply below_drew1 | refine below_set ?_ GE113.out) | exact HB.out), by repeat (first | (with_reducible first | exact HK.out | apply Kept.alloc | apply Kept.drewN | apply Kept.drew | refine Kept.setCell ?_ (.inr GW113.out) _) | exact HK.out)⟩
  ·rw [if_neg c5] at H
   exact absurd H (by simp)
 ·rw [if_neg c4] at H
  exact absurd H (by simp)
end Go.Proofs.Ytndkmnjbjlfeaaa.XM
end
section
namespace Go.Proofs.Ytndkmnjbjlfeaaa.XM
open Go Go.RowKit Go.Proofs.YtndkmnjbjlfeaaaW.PrintWords Go.Proofs.YtndkmnjbjlfeaaaW.PrintLast Go.Proofs.YtndkmnjbjlfeaaaW.PrintMore Go.Proofs.Ytndkmnjbjlfeaaa.Given Go.Proofs.Ytndkmnjbjlfeaaa.M Go.Proofs.Ytndkmnjbjlfeaaa.Mont Go.Proofs.Ytndkmnjbjlfeaaa.XS Go.Proofs.Ytndkmnjbjlfeaaa.XT Go.Proofs.Ytndkmnjbjlfeaaa.XR Go.Proofs.Ytndkmnjbjlfeaaa.F06
set_option linter.unusedVariables false
mutual
noncomputable def mixed_stage_all.l0 : Nat → List Fld → List Int → Int → Int → List Int → Int → Option (List Int)
  | 0, _, _, _, _, _, _ => none
  | k + 1, F, T, r, m, x1, x5 => if x5 < (x1.length : Int) then mixed_stage_all.l1 k F T r m x1 x5 0 else some x1
noncomputable def mixed_stage_all.l1 : Nat → List Fld → List Int → Int → Int → List Int → Int → Int → Option (List Int)
  | 0, _, _, _, _, _, _, _ => none
  | k + 1, F, T, r, m, x1, x5, x21 => if x21 < m then (if 0 ≤ x5 ∧ x5 < wrap64 (x5 + wrap64 (r * m)) ∧ wrap64 (x5 + wrap64 (r * m)) ≤ (x1.length : Int) then (mixed_stage_oneW.f x5.toNat ((wrap64 (x5 + wrap64 (r * m))).toNat - x5.toNat) k F T r m x1 x21).bind fun y => mixed_stage_all.l1 k F T r m y x5 (wrap64 (x21 + 1)) else none) else mixed_stage_all.l0 k F T r m x1 (wrap64 (x5 + wrap64 (r * m)))
end
noncomputable def mixed_stage_all.f (k : Nat) (F : List Fld) (T : List Int) (r m : Int) (l : List Int) : Option (List Int) := mixed_stage_all.l0 k F T r m l 0
theorem mixed_stage_all.mono_l : ∀ k, (∀ y0 y1 y2 y3 y4 y5, LeO (mixed_stage_all.l0 k y0 y1 y2 y3 y4 y5) (mixed_stage_all.l0 (k + 1) y0 y1 y2 y3 y4 y5)) ∧ (∀ y0 y1 y2 y3 y4 y5 y6, LeO (mixed_stage_all.l1 k y0 y1 y2 y3 y4 y5 y6) (mixed_stage_all.l1 (k + 1) y0 y1 y2 y3 y4 y5 y6))
  | 0 => ⟨fun _ _ _ _ _ _ r h => by simp [mixed_stage_all.l0] at h, fun _ _ _ _ _ _ _ r h => by simp [mixed_stage_all.l1] at h⟩
  | k + 1 => by
    obtain ⟨ih0, ih1⟩ := mixed_stage_all.mono_l k
    refine ⟨?_, ?_⟩
    · intro y0 y1 y2 y3 y4 y5
      unfold mixed_stage_all.l0
      exact LeO.ite (ih1 _ _ _ _ _ _ _) (LeO.refl _)
    · intro y0 y1 y2 y3 y4 y5 y6
      unfold mixed_stage_all.l1
      exact LeO.ite (LeO.ite (LeO.bind (mixed_stage_oneW.mono _ _ _ _ _ _ _ _ _) (fun _ => ih1 _ _ _ _ _ _ _)) (LeO.refl _)) (ih0 _ _ _ _ _ _)
theorem mixed_stage_all.mono : ∀ a0 a1 a2 a3 a4 k, LeO (mixed_stage_all.f k a0 a1 a2 a3 a4) (mixed_stage_all.f (k + 1) a0 a1 a2 a3 a4) := fun _ _ _ _ _ k => (mixed_stage_all.mono_l k).1 _ _ _ _ _ _
set_option maxHeartbeats 8000000 in
set_option maxRecDepth 100000 in
theorem mixed_stage_all.calls (k : Nat) (A0_0 : Option Addr) (c0_0 : Nat) (l0_0 : List (Fld)) (A0_1 : Option Addr) (c0_1 : Nat) (l0_1 : List Int) (a0_2 : Int) (a0_3 : Int) (P1_ : Nat → Prop) (u9000_ : Value) (l1 : List Int) (r : List Int) (w0 w : World) (hB : Below w0.heap.size w0 w) (hr0_0 : ∀ W_, Kept w W_ (fun k_ => P1_ k_) → Kd.C kFld W_ A0_0 l0_0.length l0_0) (hc0_0 : l0_0.length ≤ c0_0) (hr0_1 : ∀ W_, Kept w W_ (fun k_ => P1_ k_) → Kd.C (Kd.int .u64) W_ A0_1 l0_1.length l0_1) (hc0_1 : l0_1.length ≤ c0_1) (ho1 : Kd.R (Kd.int .u64) 31 w w0.heap.size P1_ u9000_ l1) (h : mixed_stage_all.f k l0_0 l0_1 a0_2 a0_3 l1 = some r) :
    Calls Try.prog 16 #[.agg #[toPtr (.slice A0_0 l0_0.length c0_0), .slice A0_1 l0_1.length c0_1, .int .i64 a0_2, .int .i64 a0_3], u9000_] w fun e w' => e = .returned (.tuple #[]) ∧ Kd.R (Kd.int .u64) 31 w' w0.heap.size (fun k_ => (P1_ k_ ∨ w.heap.size ≤ k_)) u9000_ r ∧ Below w0.heap.size w0 w' ∧ Kept w w' (fun k_ => P1_ k_) := by
  have hu104 := Try.underlying46
  have HR0_0 := Aside0.mk hr0_0
  have HC0_0 := Aside0.mk hc0_0
  have HR0_1 := Aside0.mk hr0_1
  have HC0_1 := Aside0.mk hc0_1
  clear hr0_0 hc0_0 hr0_1 hc0_1
  obtain ⟨Ao, co, rfl⟩ := Kd.R_slice ho1
  have HO1 := Aside0.mk (show Kd.R (Kd.int .u64) 31 w w0.heap.size (fun k_ => (P1_ k_ ∨ w.heap.size ≤ k_)) (.slice Ao l1.length co) l1 from Kd.R_mono ho1 (fun k_ hk => (.inl hk)))
  have hcap : l1.length ≤ co := (Kd.R_reads' ho1).2.1
  have HCO := Aside0.mk hcap
  have HP1 := Aside0.mk ho1.1
  have HLT := Aside0.mk (fun k hk => Kd.R_lt ho1 k hk)
  clear ho1 hcap
  have HK := Aside0.mk (Kept.refl w (fun k_ => P1_ k_))
  have HW0 := Aside0.mk hB.size
  have HB := Aside0.mk hB
  clear hB
  unfold mixed_stage_all.f at h
  have H' := Aside0.mk h
  clear h
  obtain ⟨z9, hz9⟩ : ∃ z_ : Int, wrap64 (a0_2 * a0_3) = z_ := ⟨_, rfl⟩
  have hz9v : IntKind.i64.wrap (a0_2 * a0_3) = z9 := by simp only [i64_w]; exact hz9
  go_enter Try.func16, Try.ntmps16
  go_wp2_with (first | ((with_reducible refine gate_dst (N := 2) rfl ?_); refine box_event ?hg (N := 2) ?hd (cs := #[toPtr (.slice A0_0 l0_0.length c0_0), .slice A0_1 l0_1.length c0_1, .int .i64 a0_2, .int .i64 a0_3]) (t := 46) ?hr ?_; (case hd => rfl); (case hg => rfl); (case hr => first | (go_simp; done) | (go_simp; rfl)); intro gb113 hg w6 hbox hb; have n0_ := Aside0.mk (Kd.R_below HO1.out hb); have n1_ := Aside0.mk (Kept.below (S := (fun k_ => P1_ k_)) HK.out hb); have n2_ := Aside0.mk (below_step HB.out hb); have n3_ := Aside0.mk (hbox); have n4_ := Aside0.mk ((by rw [hg]; exact Nat.le_refl _) : w.heap.size ≤ gb113); have n5_ := Aside0.mk ((by rw [hg]; exact below_size HB.out : w0.heap.size ≤ gb113)); clear HO1; clear HK; clear HB; have HO1 := n0_; have HK := n1_; have HB := n2_; have BK113 := n3_; have GW113 := n4_; have GE113 := n5_; clear n0_ n1_ n2_ n3_ n4_ n5_; clear hb hbox hg; have hcz7_0 : w6.cell? ⟨gb113, 0, none⟩ = some (toPtr (.slice A0_0 l0_0.length c0_0)) := (blk_cell BK113.out 0).trans rfl; have hcz7_1 : w6.cell? ⟨gb113, 1, none⟩ = some (.slice A0_1 l0_1.length c0_1) := (blk_cell BK113.out 1).trans rfl; have hcz7_2 : w6.cell? ⟨gb113, 2, none⟩ = some (.int .i64 a0_2) := (blk_cell BK113.out 2).trans rfl; have hcz7_3 : w6.cell? ⟨gb113, 3, none⟩ = some (.int .i64 a0_3) := (blk_cell BK113.out 3).trans rfl))
  go_loopg [5] k (fun kq v5 w' => ∃ (x1 : List Int) (x5 : Int), v5 = .int .i64 x5 ∧ Aside0 (mixed_stage_all.l0 kq l0_0 l0_1 a0_2 a0_3 x1 x5 = some r) ∧ Aside0 (kq ≤ k) ∧ Aside0 (Kd.R (Kd.int .u64) 31 w' w0.heap.size (fun k_ => (P1_ k_ ∨ w.heap.size ≤ k_)) (.slice Ao l1.length co) x1) ∧ Aside0 (w'.heap[gb113]? = some (.cells #[toPtr (.slice A0_0 l0_0.length c0_0), (.slice A0_1 l0_1.length c0_1), .int .i64 a0_2, .int .i64 a0_3] 46 (0, 0))) ∧ Aside0 (Kept w w' (fun k_ => P1_ k_)) ∧ Aside0 (Below w0.heap.size w0 w'))
  case atStart => exact ⟨l1, 0, rfl, H', ⟨Nat.le_refl _⟩, HO1, BK113, HK, HB⟩
  case round =>
    clear H' HO1 BK113 HK HB hcz7_0 hcz7_1 hcz7_2 hcz7_3
    obtain ⟨x1, x5, rfl, HA, HK1, HO, BK113, HK, HB⟩ := hrel
    have hl := (Kd.R_reads' HO.out).1
    have HL := Aside0.mk hl
    cases gk with
    | zero => exact absurd HA.out (by simp [mixed_stage_all.l0])
    | succ k1 =>
      have H := HA.out
      clear HA
      simp only [mixed_stage_all.l0] at H
      by_cases c1 : x5 < (x1.length : Int)
      · rw [if_pos c1] at H
        have H' := Aside0.mk H
        clear H
        have c1b : decide (x5 < (l1.length : Int)) = true := decide_eq_true (by omega)
        clear c1
        have hcz7_3 : wr.cell? ⟨gb113, 3, none⟩ = some (.int .i64 a0_3) := (blk_cell BK113.out 3).trans rfl
        have hfz7_3 := blk_frozen BK113.out 3
        clear hl
        go_wp2
        go_loopg [21] k1 (fun kq v21 w' => ∃ (x1 : List Int) (x21 : Int), v21 = .int .i64 x21 ∧ Aside0 (mixed_stage_all.l1 kq l0_0 l0_1 a0_2 a0_3 x1 x5 x21 = some r) ∧ Aside0 (kq ≤ k1) ∧ Aside0 (Kd.R (Kd.int .u64) 31 w' w0.heap.size (fun k_ => (P1_ k_ ∨ w.heap.size ≤ k_)) (.slice Ao l1.length co) x1) ∧ Aside0 (w'.heap[gb113]? = some (.cells #[toPtr (.slice A0_0 l0_0.length c0_0), (.slice A0_1 l0_1.length c0_1), .int .i64 a0_2, .int .i64 a0_3] 46 (0, 0))) ∧ Aside0 (Kept w w' (fun k_ => P1_ k_)) ∧ Aside0 (Below w0.heap.size w0 w'))
        case atStart => exact ⟨x1, 0, rfl, H', ⟨Nat.le_refl _⟩, HO, BK113, HK, HB⟩
        case round =>
          clear H' HO BK113 HK HB hcz7_3 hfz7_3 HL
          obtain ⟨x1, x21, rfl, HA, HK2, HO, BK113, HK, HB⟩ := hrel
          have hl := (Kd.R_reads' HO.out).1
          cases gk with
          | zero => exact absurd HA.out (by simp [mixed_stage_all.l1])
          | succ k2 =>
            have H := HA.out
            clear HA
            simp only [mixed_stage_all.l1] at H
            by_cases c2 : x21 < a0_3
            · rw [if_pos c2] at H
              have c2b : decide (x21 < a0_3) = true := decide_eq_true c2
              clear c2
              by_cases c3 : 0 ≤ x5 ∧ x5 < wrap64 (x5 + wrap64 (a0_2 * a0_3)) ∧ wrap64 (x5 + wrap64 (a0_2 * a0_3)) ≤ (x1.length : Int)
              · rw [if_pos c3] at H
                rw [hz9] at H c3
                obtain ⟨e9, he9⟩ : ∃ e_ : Int, wrap64 (x5 + z9) = e_ := ⟨_, rfl⟩
                have he9v : IntKind.i64.wrap (x5 + z9) = e9 := by simp only [i64_w]; exact he9
                rw [he9] at H c3
                obtain ⟨y, hy, H⟩ := Option.bind_eq_some_iff.mp H
                have HY := Aside0.mk hy
                have H' := Aside0.mk H
                clear H hy
                obtain ⟨d1, d2, d3⟩ := c3
                have hc := HCO.out
                have p1 : 0 ≤ x5 := d1
                have p2 : x5 ≤ e9 := by omega
                have p3 : e9 ≤ (co : Int) := by omega
                have p4 : 0 ≤ e9 := by omega
                have p5 : ¬ e9.toNat = x5.toNat := by omega
                obtain ⟨g, cap, eo, gb, gl, HG⟩ := Kd.R_form HO.out (by omega)
                injection eo with ea en ec
                have hs9 : x5.toNat + (e9.toNat - x5.toNat) ≤ x1.length := by omega
                have HS := Aside0.mk hs9
                have HC := Aside0.mk hl
                subst ea
                clear d1 d2 d3 hs9 hl gb gl HG hc en ec
                have HPg := Aside0.mk (HP1.out g rfl)
                replace p1 := eq_true p1
                replace p2 := eq_true p2
                replace p3 := eq_true p3
                replace p4 := eq_true p4
                replace p5 := eq_false p5
                have hcz7_0 : wr.cell? ⟨gb113, 0, none⟩ = some (toPtr (.slice A0_0 l0_0.length c0_0)) := (blk_cell BK113.out 0).trans rfl
                have hcz7_1 : wr.cell? ⟨gb113, 1, none⟩ = some (.slice A0_1 l0_1.length c0_1) := (blk_cell BK113.out 1).trans rfl
                have hcz7_2 : wr.cell? ⟨gb113, 2, none⟩ = some (.int .i64 a0_2) := (blk_cell BK113.out 2).trans rfl
                have hcz7_3 : wr.cell? ⟨gb113, 3, none⟩ = some (.int .i64 a0_3) := (blk_cell BK113.out 3).trans rfl
                have hfz7_0 := blk_frozen BK113.out 0
                have hfz7_1 := blk_frozen BK113.out 1
                have hfz7_2 := blk_frozen BK113.out 2
                have hfz7_3 := blk_frozen BK113.out 3
                go_wp2
                have n0_ := Aside0.mk (Kd.R_drew HO.out)
                have n2_ := Aside0.mk (blk_drew BK113.out)
                have n3_ := Aside0.mk (Kept.drew HK.out)
                have n4_ := Aside0.mk (below_drew1 HB.out)
                clear HO BK113 HK HB hcz7_0 hcz7_1 hcz7_2 hcz7_3 hfz7_0 hfz7_1 hfz7_2 hfz7_3
                have HO := n0_
                have BK113 := n2_
                have HK := n3_
                have HB := n4_
                clear n0_ n2_ n3_ n4_
                refine start_ (n := 12) (S := fun w' => w'.cell? ⟨gb113, 0, none⟩ = some (toPtr (.slice A0_0 l0_0.length c0_0)) ∧ w'.cell? ⟨gb113, 1, none⟩ = some (.slice A0_1 l0_1.length c0_1) ∧ w'.cell? ⟨gb113, 2, none⟩ = some (.int .i64 a0_2) ∧ w'.cell? ⟨gb113, 3, none⟩ = some (.int .i64 a0_3)) (ds := [11]) #[false, false, false, false, false, false, false, false, false, false, false, false] (by kernel_rfl) rfl rfl ⟨(blk_cell BK113.out 0).trans rfl, (blk_cell BK113.out 1).trans rfl, (blk_cell BK113.out 2).trans rfl, (blk_cell BK113.out 3).trans rfl⟩ (fun hHeld => ?_)
                generalize wr.drew = w20 at HO BK113 HK HB hHeld ⊢
                refine pS_ 1 25 (by kernel_rfl) rfl rfl ?_
                refine pS_ 2 26 (by kernel_rfl) rfl rfl ?_
                refine pS_ 3 27 (by kernel_rfl) rfl rfl ?_
                refine pS_ 4 28 (by kernel_rfl) rfl rfl ?_
                refine pS_ 5 29 (by kernel_rfl) rfl rfl ?_
                refine pS_ 6 30 (by kernel_rfl) rfl rfl ?_
                refine pS_ 7 31 (by kernel_rfl) rfl rfl ?_
                refine pS_ 8 32 (by kernel_rfl) rfl rfl ?_
                refine pS_ 9 33 (by kernel_rfl) rfl rfl ?_
                refine pS_ 10 34 (by kernel_rfl) rfl rfl ?_
                refine tS_ 0 24 (by kernel_rfl) hHeld (by rintro w' ⟨s0, s1, s2, s3⟩; go_simp; with_reducible rfl) rfl rfl ?_
                refine last_ (i := 11) (N := some 35) #[true, true, true, true, true, true, true, true, true, true, true, true] rfl rfl (by kernel_rfl) (by decide) (fun K hK => ?_)
                refine goes_ Try.func31 (by kernel_rfl) rfl #[.agg #[toPtr (.slice A0_0 l0_0.length c0_0), .slice A0_1 l0_1.length c0_1, .int .i64 a0_2, .int .i64 a0_3], .slice (some ⟨g, x5.toNat, none⟩) (e9.toNat - x5.toNat) (e9.toNat - x5.toNat), .int .i64 x21] (by rfl) rfl rfl (by (try simp only [List.map_toArray, List.map_cons, List.map_nil]); first | done | rfl) ?_
                have ho' : Kd.R (Kd.int .u64) 31 w20 w0.heap.size (fun k_ => k_ = g) (.slice (some ⟨g, 0, none⟩) x1.length co) x1 := by
                  rw [← HC.out]
                  exact Kd.R_flat (fun h => h) HO.out (fun k hk _ => (Option.some.inj hk).symm)
                have hkk : ∀ W_, Kept w20 W_ (fun k_ => k_ = g) → Kept w W_ (fun k_ => P1_ k_) := fun W_ hk => HK.out.then_ hk (fun k e => .inl (by rw [e]; exact HPg.out))
                refine (mixed_stage_oneW.calls k2 A0_0 c0_0 l0_0 A0_1 c0_1 l0_1 a0_2 a0_3 (fun k_ => k_ = g) g x5.toNat (e9.toNat - x5.toNat) (e9.toNat - x5.toNat) co x1 x21 y w0 w20 HB.out (fun W_ hk => HR0_0.out W_ (hkk W_ hk)) HC0_0.out (fun W_ hk => HR0_1.out W_ (hkk W_ hk)) HC0_1.out ho' HS.out HY.out).mono ?_
                rintro e w22 ⟨rfl, ho, hb, hk⟩
                refine ⟨_, rfl, ?_⟩
                have hgb : gb113 ≠ g := by have := HLT.out g rfl; have := GW113.out; omega
                have n0_ : Aside0 (Kd.R (Kd.int .u64) 31 w22 w0.heap.size (fun k_ => (P1_ k_ ∨ w.heap.size ≤ k_)) (.slice (some ⟨g, 0, none⟩) l1.length co) y) := ⟨by
                  rw [HC.out]
                  exact Kd.R_flat (fun h => h) ho (fun k hk' _ => .inl (by rw [← Option.some.inj hk']; exact HPg.out))⟩
                have n2_ : Aside0 (w22.heap[gb113]? = some (.cells #[toPtr (.slice A0_0 l0_0.length c0_0), (.slice A0_1 l0_1.length c0_1), .int .i64 a0_2, .int .i64 a0_3] 46 (0, 0))) := ⟨(hk.2 gb113 (blk_lt BK113.out) hgb).trans BK113.out⟩
                have n3_ : Aside0 (Kept w w22 (fun k_ => P1_ k_)) := ⟨hkk w22 hk⟩
                have n4_ : Aside0 (Below w0.heap.size w0 w22) := ⟨hb⟩
                clear HO BK113 HK HB ho hb hk ho' hkk hHeld
                have HO := n0_
                have BK113 := n2_
                have HK := n3_
                have HB := n4_
                clear n0_ n2_ n3_ n4_
                refine hK.out _ _ ?_
                clear hK K
                refine done_ (by kernel_rfl) ?_
                try go_wp2
                go_roundg k2
                case measure => have := HK1.out; have := HK2.out; omega
                case rel => exact ⟨y, (wrap64 (x21 + 1)), rfl, H', ⟨by have := HK2.out; omega⟩, HO, BK113, HK, HB⟩
              · rw [if_neg c3] at H
                exact absurd H (by simp)
            · rw [if_neg c2] at H
              have H' := Aside0.mk H
              have c2b : decide (x21 < a0_3) = false := decide_eq_false c2
              clear H c2 hl
              go_wp2
              go_roundg k2
              case measure => have := HK1.out; have := HK2.out; omega
              case rel => exact ⟨x1, (wrap64 (x5 + wrap64 (a0_2 * a0_3))), (by rw [hz9]), H', ⟨by have := HK1.out; have := HK2.out; omega⟩, HO, BK113, HK, HB⟩
      · rw [if_neg c1] at H
        have c1b : decide (x5 < (l1.length : Int)) = false := decide_eq_false (by omega)
        obtain rfl := Option.some.inj H
        clear H c1 hl
        go_wp2
        first | go_end0 | ((try simp only [Exit.inBlock, Exit.then]); refine bodyPost_ret (results_none rfl _ _ _) rfl ?_)
        exact ⟨rfl, HO.out, HB.out, HK.out⟩
end Go.Proofs.Ytndkmnjbjlfeaaa.XM
end
section
namespace Go.Proofs.Ytndkmnjbjlfeaaa.XM
open Go Go.RowKit Go.Proofs.YtndkmnjbjlfeaaaW.PrintWords Go.Proofs.YtndkmnjbjlfeaaaW.PrintLast Go.Proofs.YtndkmnjbjlfeaaaW.PrintMore Go.Proofs.Ytndkmnjbjlfeaaa.Given Go.Proofs.Ytndkmnjbjlfeaaa.M Go.Proofs.Ytndkmnjbjlfeaaa.Mont Go.Proofs.Ytndkmnjbjlfeaaa.XS Go.Proofs.Ytndkmnjbjlfeaaa.XT Go.Proofs.Ytndkmnjbjlfeaaa.XR Go.Proofs.Ytndkmnjbjlfeaaa.F06
set_option linter.unusedVariables false
def rAt (i : Int) : Int := if i = 0 then 2 else if i = 1 then 3 else if i = 2 then 5 else 7
theorem rAt_pos (i : Int) : 2 ≤ rAt i := by unfold rAt; split <;> (try split) <;> (try split) <;> omega
mutual
noncomputable def mixed_Radices.l0 : Nat → Int → List Int → Int → Option (List Int × Bool)
  | 0, _, _, _ => none
  | k + 1, x0, x4, x14 => if x14 < 4 then (if 0 ≤ x14 then mixed_Radices.l1 k x0 x4 x14 else none) else if x0 > 1 then some ([], false) else some (x4, true)
noncomputable def mixed_Radices.l1 : Nat → Int → List Int → Int → Option (List Int × Bool)
  | 0, _, _, _ => none
  | k + 1, x0, x4, x14 => if Int.tmod x0 (rAt x14) = 0 then (if x4.length < 17592186044416 then mixed_Radices.l1 k (wrap64 (Int.tdiv x0 (rAt x14))) (x4 ++ [rAt x14]) x14 else none) else mixed_Radices.l0 k x0 x4 (wrap64 (x14 + 1))
end
noncomputable def mixed_Radices.f (k : Nat) (n : Int) : Option (List Int × Bool) := if n < 1 then some ([], false) else if n > 1024 then some ([], false) else mixed_Radices.l0 k n [] 0
theorem mixed_Radices.mono_l : ∀ k, (∀ y0 y1 y2, LeO (mixed_Radices.l0 k y0 y1 y2) (mixed_Radices.l0 (k + 1) y0 y1 y2)) ∧ (∀ y0 y1 y2, LeO (mixed_Radices.l1 k y0 y1 y2) (mixed_Radices.l1 (k + 1) y0 y1 y2))
  | 0 => ⟨fun _ _ _ r h => by simp [mixed_Radices.l0] at h, fun _ _ _ r h => by simp [mixed_Radices.l1] at h⟩
  | k + 1 => by
    obtain ⟨ih0, ih1⟩ := mixed_Radices.mono_l k
    refine ⟨?_, ?_⟩
    · intro y0 y1 y2
      unfold mixed_Radices.l0
      exact LeO.ite (LeO.ite (ih1 _ _ _) (LeO.refl _)) (LeO.refl _)
    · intro y0 y1 y2
      unfold mixed_Radices.l1
      exact LeO.ite (LeO.ite (ih1 _ _ _) (LeO.refl _)) (ih0 _ _ _)
theorem mixed_Radices.mono : ∀ a0 k, LeO (mixed_Radices.f k a0) (mixed_Radices.f (k + 1) a0) := by
  intro a0 k
  unfold mixed_Radices.f
  exact LeO.ite (LeO.refl _) (LeO.ite (LeO.refl _) ((mixed_Radices.mono_l k).1 _ _ _))
set_option maxHeartbeats 8000000 in
set_option maxRecDepth 100000 in
theorem mixed_Radices.calls (k : Nat) (a0 : Int) (r1 : List Int) (r2 : Bool) (w : World) (h : mixed_Radices.f k a0 = some (r1, r2)) :
    Calls Try.prog 5 #[.int .i64 a0] w fun e w' => ∃ v0_ : Value, e = .returned (.tuple #[v0_, .bool r2]) ∧ Kd.R (Kd.int .i64) 3 w' w.heap.size (fun _ => True) v0_ r1 ∧ Below w.heap.size w w' := by
  have HB := Aside0.mk (Below.refl w.heap.size w)
  have HO := Aside0.mk (Kd.R_nil (Kd.int .i64) 3 w w.heap.size (fun _ => True))
  unfold mixed_Radices.f at h
  by_cases c1 : a0 < 1
  · rw [if_pos c1] at h
    have c1b : decide (a0 < 1) = true := decide_eq_true c1
    simp only [Option.some.injEq, Prod.mk.injEq] at h
    obtain ⟨rfl, rfl⟩ := h
    go_enter Try.func5, Try.ntmps5
    go_wp2
    go_ret2
    exact ⟨_, rfl, HO.out, HB.out⟩
  rw [if_neg c1] at h
  have c1b : decide (a0 < 1) = false := decide_eq_false c1
  by_cases c2 : a0 > 1024
  · rw [if_pos c2] at h
    have c2b : decide (1024 < a0) = true := decide_eq_true c2
    simp only [Option.some.injEq, Prod.mk.injEq] at h
    obtain ⟨rfl, rfl⟩ := h
    go_enter Try.func5, Try.ntmps5
    go_wp2
    go_ret2
    exact ⟨_, rfl, HO.out, HB.out⟩
  rw [if_neg c2] at h
  have c2b : decide (1024 < a0) = false := decide_eq_false c2
  have H' := Aside0.mk h
  clear h c1 c2
  go_enter Try.func5, Try.ntmps5
  go_wp2
  go_loopg [0, 4, 14] k (fun kq v0 v4 v14 w' => ∃ (x0 : Int) (x4 : List Int) (x14 : Int), v0 = .int .i64 x0 ∧ v14 = .int .i64 x14 ∧ Aside0 (mixed_Radices.l0 kq x0 x4 x14 = some (r1, r2)) ∧ Aside0 (kq ≤ k) ∧ Aside0 (Kd.R (Kd.int .i64) 3 w' w.heap.size (fun _ => True) v4 x4) ∧ Aside0 (Below w.heap.size w w'))
  case atStart => exact ⟨a0, [], 0, rfl, rfl, H', ⟨Nat.le_refl _⟩, HO, HB⟩
  case round =>
    clear H' HO HB c1b c2b
    obtain ⟨x0, x4, x14, rfl, rfl, HA, HK1, HO, HB⟩ := hrel
    cases gk with
    | zero => exact absurd HA.out (by simp [mixed_Radices.l0])
    | succ k1 =>
      have H := HA.out
      clear HA
      simp only [mixed_Radices.l0] at H
      by_cases c3 : x14 < 4
      · rw [if_pos c3] at H
        have c3b : decide (x14 < 4) = true := decide_eq_true c3
        by_cases c4 : 0 ≤ x14
        · rw [if_pos c4] at H
          have H' := Aside0.mk H
          clear H
          have hR : x14 = 0 ∨ x14 = 1 ∨ x14 = 2 ∨ x14 = 3 := by omega
          obtain ⟨r9, hr9⟩ : ∃ r_ : Int, rAt x14 = r_ := ⟨_, rfl⟩
          have p4 := eq_true c4
          have p3 := eq_true c3
          have hix : ∀ W, Sem.run Try.prog (Instr.index 36 (Value.agg #[Value.int IntKind.i64 2, Value.int IntKind.i64 3, Value.int IntKind.i64 5, Value.int IntKind.i64 7]) (Value.int IntKind.i64 x14)) W = .ok (Value.int IntKind.i64 r9) W := by
            intro W
            rw [← hr9]
            clear H' HK1 HO HB p3 p4 c3b
            rcases hR with rfl | rfl | rfl | rfl <;> (first | rfl | kernel_rfl | (go_simp; done) | (go_simp; rfl))
          have hr2 : 2 ≤ r9 := by rw [← hr9]; exact rAt_pos _
          have hr0 : ¬ r9 = 0 := by omega
          have hr0b : (r9 == 0) = false := beq_eq_false_iff_ne.mpr hr0
          clear c3 c4 hR
          go_wp2
          clear hix
          go_loopg [0, 4] k1 (fun kq v0 v4 w' => ∃ (x0 : Int) (x4 : List Int), v0 = .int .i64 x0 ∧ Aside0 (mixed_Radices.l1 kq x0 x4 x14 = some (r1, r2)) ∧ Aside0 (kq ≤ k1) ∧ Aside0 (Kd.R (Kd.int .i64) 3 w' w.heap.size (fun _ => True) v4 x4) ∧ Aside0 (Below w.heap.size w w'))
          case atStart => exact ⟨x0, x4, rfl, H', ⟨Nat.le_refl _⟩, HO, HB⟩
          case round =>
            clear H' HO HB c3b p4 p3
            obtain ⟨x0, x4, rfl, HA, HK2, HO, HB⟩ := hrel
            cases gk with
            | zero => exact absurd HA.out (by simp [mixed_Radices.l1])
            | succ k2 =>
              have H := HA.out
              clear HA
              simp only [mixed_Radices.l1] at H
              rw [hr9] at H
              by_cases c5 : Int.tmod x0 r9 = 0
              · rw [if_pos c5] at H
                have c5b : (Int.tmod x0 r9 == 0) = true := beq_iff_eq.mpr c5
                by_cases c6 : x4.length < 17592186044416
                · rw [if_pos c6] at H
                  have HL := Aside0.mk c6
                  have H' := Aside0.mk H
                  clear H c5 c6
                  go_wp2_with (first | ((with_reducible refine gate_builtin (b := .append) (xs := #[.tmp 21, .tmp 23]) rfl ?_); at_builtin; refine Kd.R_append (Kd.int .i64) (w0 := w) w.heap.size rfl (.tmp 21) (.tmp 23) 23 3 (.int .i64 0) 8 rfl Try.underlying23 info3 rfl (by decide) (by omega) u4 x4 r9 [.int .i64 r9] (fun _ => True) (fun _ => False) rfl rfl ?aP (fun _ hk => hk.elim) ?aF ?aO ?aB ?aS ?aL ?_; (case aP => exact rfl); (case aB => exact HB.out); (case aF => exact (fun _ _ => trivial)); (case aO => exact HO.out); (case aS => exact below_size HB.out); (case aL => have := HL.out; omega); intro v211 w13 ho hb hg hat; have n0_ := Aside0.mk (hb); have n1_ := Aside0.mk (ho); clear HB; clear HO; have HB := n0_; have HO := n1_; clear n0_ n1_; clear ho hb hg hat))
                  go_roundg k2
                  case measure => have := HK1.out; have := HK2.out; omega
                  case rel => exact ⟨(wrap64 (Int.tdiv x0 r9)), (x4 ++ [r9]), (by first | rfl | (simp; done) | (simp [*]; done)), H', ⟨by have := HK2.out; omega⟩, HO, HB⟩
                · rw [if_neg c6] at H
                  exact absurd H (by simp)
              · rw [if_neg c5] at H
                have c5b : (Int.tmod x0 r9 == 0) = false := beq_eq_false_iff_ne.mpr c5
                have H' := Aside0.mk H
                clear H c5
                go_wp2
                go_roundg k2
                case measure => have := HK1.out; have := HK2.out; omega
                case rel => exact ⟨x0, x4, (wrap64 (x14 + 1)), rfl, (by first | rfl | (simp; done) | (simp [*]; done)), H', ⟨by have := HK1.out; have := HK2.out; omega⟩, HO, HB⟩
        · rw [if_neg c4] at H
          exact absurd H (by simp)
      · rw [if_neg c3] at H
        have c3b : decide (x14 < 4) = false := decide_eq_false c3
        clear c3
        by_cases c5 : x0 > 1
        · rw [if_pos c5] at H
          have c5b : decide (1 < x0) = true := decide_eq_true c5
          simp only [Option.some.injEq, Prod.mk.injEq] at H
          obtain ⟨rfl, rfl⟩ := H
          go_wp2
          go_ret2
          exact ⟨_, rfl, Kd.R_nil _ _ _ _ _, HB.out⟩
        · rw [if_neg c5] at H
          have c5b : decide (1 < x0) = false := decide_eq_false c5
          simp only [Option.some.injEq, Prod.mk.injEq] at H
          obtain ⟨rfl, rfl⟩ := H
          go_wp2
          go_ret2
          exact ⟨_, rfl, HO.out, HB.out⟩
end Go.Proofs.Ytndkmnjbjlfeaaa.XM
end
section

end
