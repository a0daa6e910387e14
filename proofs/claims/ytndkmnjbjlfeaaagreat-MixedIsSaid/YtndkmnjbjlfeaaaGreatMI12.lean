/- Parts of this claim's texts, packed by wip/tools/prune.py: what the proof does not reach is left out. -/
import Derived.Test.YtndkmnjbjlfeaaaGreatMI11
section
namespace Go.Proofs.YtndkmnjbjlfeaaaGreat.XW
open Go.RowKit Go.Proofs.YtndkmnjbjlfeaaaGreat.Given Go.Proofs.YtndkmnjbjlfeaaaGreat.Row05 Go.Proofs.YtndkmnjbjlfeaaaGreat.XS Go.Proofs.YtndkmnjbjlfeaaaGreat.XT Go.Proofs.YtndkmnjbjlfeaaaGreat.XR Go.Proofs.YtndkmnjbjlfeaaaGreat.F06 Go.Proofs.YtndkmnjbjlfeaaaGreat.XK Go.Proofs.YtndkmnjbjlfeaaaGreatW.PrintWords Go.Proofs.YtndkmnjbjlfeaaaGreatW.PrintLast Go.Proofs.YtndkmnjbjlfeaaaGreatW.PrintMore
attribute [local go_sem] max2_int min2_int max_two min_two max_three min_three max_four min_four
set_option linter.unusedVariables false
set_option linter.unusedSimpArgs false
noncomputable def twiddle_Root.j0 : Nat → List (Fld) → Int → Int → Bool → Option (Int × Int)
 | 0, _, _, _, _ => none
 | k + 1, x0, x8, x9, x29 => if x29 = true then ((field_Field_Inv.f x0 x8).bind fun t103 => (some (t103, x9))) else (some (x8, x9))
noncomputable def twiddle_Root.f (k : Nat) (l0 : List (Fld)) (a1 : Int) (a2 : Bool) : Option (Int × Int) := if (l0.length : Int) = 0 then (some (0, 2)) else (if a1 < 1 then (some (0, 1)) else (if a1 > 4096 then (some (0, 13)) else ((field_Field_Root.f l0 a1).bind fun bt101 => (if bt101.2 = 0 then (twiddle_Root.j0 k l0 bt101.1 bt101.2 a2) else (twiddle_Root.j0 k l0 bt101.1 bt101.2 false)))))
set_option maxHeartbeats 8000000 in
set_option maxRecDepth 100000 in
theorem twiddle_Root.calls (k : Nat) (A0 : Option Addr) (c0 : Nat) (l0 : List (Fld)) (a1 : Int) (a2 : Bool) (r1 : Int) (r2 : Int) (w : World) (hr0 : Kd.C kFld w A0 l0.length l0) (hc0 : l0.length ≤ c0) (h : twiddle_Root.f k l0 a1 a2 = some (r1, r2)) :
  Calls Tryz.prog 132 #[toPtr (.slice A0 l0.length c0), .int .i64 a1, .bool a2] w fun e w' => e = .returned (.tuple #[.int .u64 r1, .int .i64 r2]) ∧ Drawn0 w w' := by
 have HR0 := Aside0.mk hr0
 have HC0 := Aside0.mk hc0
 clear hr0 hc0
 have H := h; unfold twiddle_Root.f at H
 clear h
 by_cases c4 : (l0.length : Int) = 0
 ·rw [if_pos c4] at H
  have c4b0 := beq_iff_eq.mpr c4
  have c4b1 := bne_eq_false_iff_eq.mpr c4
  have hT_HR0 := pf_none A0 c0 (show l0.length = 0 by omega)
  (try rw [hT_HR0])
  clear c4
  simp only [Option.some.injEq, Prod.mk.injEq] at H
  obtain ⟨rfl, rfl⟩ := H
  go_enter Tryz.func132, Tryz.ntmps132
  go_wp2
  go_ret2
  exact ⟨eq_, dw_⟩
 ·rw [if_neg c4] at H
  have c4b0 := beq_eq_false_iff_ne.mpr c4
  have c4b1 := bne_iff_ne.mpr c4
  have c4b2 : ¬ (l0 = []) := fun h_ => c4 (by rw [h_]; rfl)
  obtain ⟨aT_HR0, hT_HR0⟩ := pf_some A0 c0 (show ¬ (l0.length = 0) by omega)
  (try rw [hT_HR0])
  by_cases c5 : a1 < 1
  ·rw [if_pos c5] at H
   have c5b0 := decide_eq_true c5
   clear c5
   simp only [Option.some.injEq, Prod.mk.injEq] at H
   obtain ⟨rfl, rfl⟩ := H
   go_enter Tryz.func132, Tryz.ntmps132
   go_wp2
   go_ret2
   exact ⟨eq_, dw_⟩
  ·rw [if_neg c5] at H
   have c5b0 := decide_eq_false c5
   clear c5
   by_cases c6 : a1 > 4096
   ·rw [if_pos c6] at H
    have c6b0 := decide_eq_true c6
    clear c6
    simp only [Option.some.injEq, Prod.mk.injEq] at H
    obtain ⟨rfl, rfl⟩ := H
    go_enter Tryz.func132, Tryz.ntmps132
    go_wp2
    go_ret2
    exact ⟨eq_, dw_⟩
   ·rw [if_neg c6] at H
    have c6b0 := decide_eq_false c6
    clear c6
    replace H := Option.bind_eq_some_iff.mp H
    obtain ⟨⟨t101, t102⟩, A70, H⟩ := H
    (try dsimp only at H)
    have A7 := Aside0.mk A70
    clear A70
    have HC8 := Aside0.mk H
    clear H
    go_enter Tryz.func132, Tryz.ntmps132
    go_upto_region 8 with (first | ((with_reducible refine gate_callee (f := 29) rfl ?_); refine goesL_ (some 22) rfl rfl Tryz.func29 (by kernel_rfl) rfl #[toPtr (.slice A0 l0.length c0), .int .i64 a1] rfl (gaT_ hT_HR0) ?_; (try rw [← hT_HR0]); (with_reducible refine (field_Field_Root.calls _ _ l0 a1 t101 t102 _ ?side1 ?side2 A7.out).mono ?_); (case side1 => exact cal_ HR0.out); (case side2 => exact HC0.out); rintro e w' ⟨rfl, ⟨nd, rfl⟩⟩; refine ⟨_, rfl, ?_⟩))
    (try simp only [Act.put, List.setIfInBounds_toArray, List.set_cons_zero, List.set_cons_succ])
    go_cut [29] (fun v29 wc => ∃ (kq : Nat) (x29_7 : Bool), v29 = .bool x29_7 ∧ Aside0 (twiddle_Root.j0 kq l0 t101 t102 x29_7 = some (r1, r2)) ∧ Aside0 (kq ≤ k) ∧ Drawn0 w wc)
    case first =>
     have H := HC8.out
     clear HC8
     by_cases c9 : t102 = 0
     ·rw [if_pos c9] at H
      have c9b0 := beq_iff_eq.mpr c9
      have c9b1 := bne_eq_false_iff_eq.mpr c9
      clear c9
      (first | rw [c9b0] | (simp only [i64_w, i32_w]; rw [c9b0]) | skip)
      have H' := Aside0.mk H
      clear H
      go_wp2
      go_meet
      case rel => exact ⟨_, (a2), eq_, H', ⟨by first | omega | exact Nat.le_refl _⟩, dw_⟩
     ·rw [if_neg c9] at H
      have c9b0 := beq_eq_false_iff_ne.mpr c9
      have c9b1 := bne_iff_ne.mpr c9
      (first | rw [c9b0] | (simp only [i64_w, i32_w]; rw [c9b0]) | skip)
      have H' := Aside0.mk H
      clear H
      go_wp2
      go_meet
      case rel => exact ⟨_, (false), eq_, H', ⟨by first | omega | exact Nat.le_refl _⟩, dw_⟩
    case rest =>
     clear HC8
     obtain ⟨kq, x29_7, rfl, HA, HJ7, ⟨mc7, rfl⟩⟩ := hcut
     cases kq with
     | zero => exact absurd HA.out (by simp [twiddle_Root.j0])
     | succ kj7 =>
      have H := HA.out
      clear HA
      simp only [twiddle_Root.j0] at H
      by_cases c10 : x29_7 = true
      ·subst c10
       have H1 := H; rw [if_pos rfl] at H1
       clear H
       have H := H1
       clear H1
       replace H := Option.bind_eq_some_iff.mp H
       obtain ⟨t103, A110, H⟩ := H
       (try dsimp only at H)
       have A11 := Aside0.mk A110
       clear A110
       simp only [Option.some.injEq, Prod.mk.injEq] at H
       obtain ⟨rfl, rfl⟩ := H
       go_wp2_with (first | ((with_reducible refine gate_callee (f := 61) rfl ?_); refine goesL_ (some 32) rfl rfl Tryz.func61 (by kernel_rfl) rfl #[toPtr (.slice A0 l0.length c0), .int .u64 t101] rfl (gaT_ hT_HR0) ?_; (try rw [← hT_HR0]); (with_reducible refine (field_Field_Inv.calls _ _ l0 t101 t103 _ ?side1 ?side2 A11.out).mono ?_); (case side1 => exact cal_ HR0.out); (case side2 => exact HC0.out); rintro e w' ⟨rfl, ⟨nd, rfl⟩⟩; refine ⟨_, rfl, ?_⟩))
       go_ret2
       exact ⟨eq_, dw_⟩
      ·replace c10 := Bool.eq_false_iff.mpr c10
       subst c10
       have H1 := H; rw [if_neg (show ¬ (false = true) by decide)] at H1
       clear H
       have H := H1
       clear H1
       simp only [Option.some.injEq, Prod.mk.injEq] at H
       obtain ⟨rfl, rfl⟩ := H
       go_wp2
       go_ret2
       exact ⟨eq_, dw_⟩
noncomputable def twiddle_Table.l0 : Nat → List (Fld) → Int → List Int → Int → Int → Int → Option (List Int × Int)
 | 0, _, _, _, _, _, _ => none
 | k + 1, x0, x10, x11, x12, x30, x31 => if x31 < x30 then (if 0 ≤ x31 then (if x31 < (x11.length : Int) then ((field_Field_Times.f x0 x10 x12).bind fun t111 => (twiddle_Table.l0 k x0 x10 (x11.set (x31 : Int).toNat x12) t111 x30 (wrap64 (x31 + 1)))) else (none)) else (none)) else (some (x11, 0))
noncomputable def twiddle_Table.f (k : Nat) (l0 : List (Fld)) (a1 : Int) (a2 : Bool) : Option (List Int × Int) := (twiddle_Root.f k l0 a1 a2).bind fun bt104 => (if bt104.2 = 0 then ((field_Field_Lift.f l0 bt104.1).bind fun t106 => (if 0 ≤ a1 then (if (a1 : Int).toNat ≤ 35184372088832 then ((some (List.replicate (a1 : Int).toNat 0 : List Int)).bind fun y107 => (twiddle_Table.l0 k l0 t106 y107 1 (y107.length : Int) 0)) else (none)) else (none))) else (some (([] : List Int), bt104.2)))
set_option maxHeartbeats 8000000 in
set_option maxRecDepth 100000 in
theorem twiddle_Table.calls (k : Nat) (A0 : Option Addr) (c0 : Nat) (l0 : List (Fld)) (a1 : Int) (a2 : Bool) (r1 : List Int) (r2 : Int) (w : World) (hr0 : Kd.C kFld w A0 l0.length l0) (hc0 : l0.length ≤ c0) (h : twiddle_Table.f k l0 a1 a2 = some (r1, r2)) :
  Calls Tryz.prog 103 #[toPtr (.slice A0 l0.length c0), .int .i64 a1, .bool a2] w fun e w' => ∃ v0_ : Value, e = .returned (.tuple #[v0_, .int .i64 r2]) ∧ Kd.R (Kd.int .u64) 22 w' w.heap.size (fun _ => True) v0_ r1 ∧ Below w.heap.size w w' := by
 have HR0 := Aside0.mk hr0
 have HC0 := Aside0.mk hc0
 clear hr0 hc0
 have HB := Aside0.mk (Below.refl w.heap.size w)
 have H := h; unfold twiddle_Table.f at H
 clear h
 replace H := Option.bind_eq_some_iff.mp H
 obtain ⟨⟨t104, t105⟩, A40, H⟩ := H
 (try dsimp only at H)
 have A4 := Aside0.mk A40
 clear A40
 by_cases c5 : t105 = 0
 ·rw [if_pos c5] at H
  have c5b0 := beq_iff_eq.mpr c5
  have c5b1 := bne_eq_false_iff_eq.mpr c5
  clear c5
  replace H := Option.bind_eq_some_iff.mp H
  obtain ⟨t106, A60, H⟩ := H
  (try dsimp only at H)
  have A6 := Aside0.mk A60
  clear A60
  by_cases c7 : 0 ≤ a1
  ·rw [if_pos c7] at H
   have c7b0 := eq_true c7
   have c7b1 := decide_eq_true c7
   clear c7
   by_cases c8 : (a1 : Int).toNat ≤ 35184372088832
   ·rw [if_pos c8] at H
    have c8b0 := eq_true c8
    have c8b1 := decide_eq_true c8
    clear c8
    obtain ⟨y107, hy107⟩ : ∃ y_ : List Int, y_ = (List.replicate (a1 : Int).toNat 0) := ⟨_, rfl⟩
    replace H : (twiddle_Table.l0 k l0 t106 y107 1 (y107.length : Int) 0) = some (r1, r2) := by first | (rw [hy107]; with_reducible exact H) | (have H2_ := (Option.bind_some _ _).symm.trans H; rw [hy107]; with_reducible exact H2_) | (have H2_ := (Option.bind_some _ _).symm.trans H; with_reducible exact H2_) | with_reducible exact H | (rw [hy107]; exact H) | exact H
    have Ny107 := Aside0.mk hy107
    clear hy107
    have H' := Aside0.mk H
    clear H
    go_enter Tryz.func103, Tryz.ntmps103
    go_wp2_with (first | ((with_reducible refine gate_callee (f := 132) rfl ?_); refine goesL_ (some 18) rfl rfl Tryz.func132 (by kernel_rfl) rfl #[toPtr (.slice A0 l0.length c0), .int .i64 a1, .bool a2] rfl (by (try simp only [List.map_toArray, List.map_cons, List.map_nil]); first | done | (rw [hT_HR0] <;> rfl) | rfl | (simp only [List.length_drop, List.length_take]; rfl)) ?_; (try rw [← hT_HR0]); (with_reducible refine (twiddle_Root.calls k _ _ l0 a1 a2 t104 t105 _ ?side1 ?side2 A4.out).mono ?_); (case side1 => exact cal_ HR0.out); (case side2 => exact HC0.out); rintro e w' ⟨rfl, ⟨nd, rfl⟩⟩; refine ⟨_, rfl, ?_⟩) | ((with_reducible refine gate_callee (f := 60) rfl ?_); refine goesL_ (some 26) rfl rfl Tryz.func60 (by kernel_rfl) rfl #[toPtr (.slice A0 l0.length c0), .int .u64 t104] rfl (by (try simp only [List.map_toArray, List.map_cons, List.map_nil]); first | done | (rw [hT_HR0] <;> rfl) | rfl | (simp only [List.length_drop, List.length_take]; rfl)) ?_; (try rw [← hT_HR0]); (with_reducible refine (field_Field_Lift.calls _ _ l0 t104 t106 _ ?side1 ?side2 A6.out).mono ?_); (case side1 => exact cal_ HR0.out); (case side2 => exact HC0.out); rintro e w' ⟨rfl, ⟨nd, rfl⟩⟩; refine ⟨_, rfl, ?_⟩) | ((with_reducible refine gate_dst (N := 28) rfl ?_); refine Kd.R_make (Kd.int .u64) _ 22 rfl (N := 28) rfl 26 _ _ rfl a1 rfl rfl Tryz.underlying26 (.int .u64 0) 8 info22 rfl (by decide) (by omega) 0 (ok := fun _ => True) (okp := fun _ => True) rfl (fun _ hk => hk) trivial (of_decide_eq_true (by assumption)) (Nat.le_trans (Nat.mul_le_mul_right _ (of_decide_eq_true (by assumption) : a1.toNat ≤ 35184372088832)) (by omega)) (Below.refl _ _) (Nat.le_refl _) ?_; intro v108 w9 ho10 hb hg_ hnew_; clear hg_ hnew_; (first | rw [← Ny107.out] at ho10 | (simp only [Int.reduceToNat] at ho10; rw [← Ny107.out] at ho10)); have n0_ := Aside0.mk (Kd.R_lower ho10 (below_size bel_)); have n1_ := Aside0.mk (below_step bel_ hb); clear HB; have HO109 := n0_; have HB := n1_; clear n0_ n1_; clear hb ho10; obtain ⟨Ao11, co11, eo11⟩ := Kd.R_slice HO109.out; subst eo11))
    go_loopg [12, 31] k (fun kq v12 v31 w' => ∃ (x11_1 : List Int) (x12_1 : Int) (x31_1 : Int), v12 = .int .u64 x12_1 ∧ v31 = .int .i64 x31_1 ∧ Aside0 (twiddle_Table.l0 kq l0 t106 x11_1 x12_1 (y107.length : Int) x31_1 = some (r1, r2)) ∧ Aside0 (kq ≤ k) ∧ Aside0 (Kd.R (Kd.int .u64) 22 w' w.heap.size (fun _ => True) (.slice Ao11 y107.length co11) x11_1) ∧ Aside0 (Below w.heap.size w w'))
    case atStart => exact ⟨(y107), (1), (0), eq_, eq_, H', ⟨Nat.le_refl _⟩, ⟨rel_ HO109.out⟩, ⟨bel_⟩⟩
    case round =>
     clear H'
     obtain ⟨x11_1, x12_1, x31_1, rfl, rfl, HA, HK1, HO_11, HB⟩ := hrel
     have hl11_1 := (Kd.R_reads' HO_11.out).1
     rw [hl11_1] at HO_11
     (try simp only [hl11_1])
     cases gk with
     | zero => exact absurd HA.out (by simp [twiddle_Table.l0])
     | succ k1 =>
      have H := HA.out
      clear HA
      simp only [twiddle_Table.l0] at H
      by_cases c12 : x31_1 < (y107.length : Int)
      ·rw [if_pos c12] at H
       have c12b0 := decide_eq_true c12
       (try (have c12b0hl11_1 := c12b0; simp only [hl11_1] at c12b0hl11_1))
       clear c12
       by_cases c13 : 0 ≤ x31_1
       ·rw [if_pos c13] at H
        have c13b0 := decide_eq_true c13
        clear c13
        by_cases c14 : x31_1 < (x11_1.length : Int)
        ·rw [if_pos c14] at H
         have c14b0 := decide_eq_true c14
         (try (have c14b0hl11_1 := c14b0; simp only [hl11_1] at c14b0hl11_1))
         clear c14
         obtain ⟨y110, hy110⟩ : ∃ y_ : List Int, y_ = (x11_1.set (x31_1 : Int).toNat x12_1) := ⟨_, rfl⟩
         replace H : ((field_Field_Times.f l0 t106 x12_1).bind fun t111 => (twiddle_Table.l0 k1 l0 t106 y110 t111 (y107.length : Int) (wrap64 (x31_1 + 1)))) = some (r1, r2) := by first | (rw [hy110]; with_reducible exact H) | (have H2_ := (Option.bind_some _ _).symm.trans H; rw [hy110]; with_reducible exact H2_) | (have H2_ := (Option.bind_some _ _).symm.trans H; with_reducible exact H2_) | with_reducible exact H | (rw [hy110]; exact H) | exact H
         have Ny110 := Aside0.mk hy110
         clear hy110
         replace H := Option.bind_eq_some_iff.mp H
         obtain ⟨t111, A160, H⟩ := H
         (try dsimp only at H)
         have A16 := Aside0.mk A160
         clear A160
         have H' := Aside0.mk H
         clear H
         have p15 : 0 ≤ (x31_1 : Int) := of_decide_eq_true (by assumption)
         have q15 : (x31_1 : Int) < ((x11_1.length : Int) : Int) := of_decide_eq_true (by assumption)
         obtain ⟨go15, co15, eo15, gb15, gl15, cl15, HG15⟩ := Kd.R_form HO_11.out (by omega)
         (first | cases eo15 | (injection eo15 with ea_ en_ ec_; (first | subst ea_ | (injection ea_ with ea_; subst ea_)); subst ec_; clear en_))
         have GB15 := Aside0.mk gb15
         have GG15 := Aside0.mk HG15
         clear gb15 gl15 HG15
         obtain ⟨hx15_0, hf15_0⟩ := Kd.R_celln 0 HO_11.out (x31_1 : Int) p15 q15
         replace p15 := eq_true p15
         replace q15 := eq_true q15
         have HP17 := Kd.R_putg HO_11.out (x31_1 : Int) x12_1
         go_wp2_with (first | ((with_reducible refine gate_store (t := 22) (p := 37) rfl ?_); refine store_event (t := 22) (p := 37) (v := ?vo_w18) (w1 := (wr.setCell ⟨go15, (x31_1 : Int).toNat, none⟩ (.int .u64 x12_1))) ?hg ?ho ?hn ?hr ?_; (case ho => rfl); (case hg => rfl); (case hn => rfl); (case hr => first | (go_simp; done) | (go_simp; rfl)); intro w18 hw; have hg : wr.grownBy w18 (some go15) := (by rw [hw]; exact HP17.2); have hp_ : Kd.R (Kd.int .u64) 22 w18 w.heap.size (fun _ => True) (.slice (some ⟨go15, 0, none⟩) x11_1.length co11) y110 := (by rw [hw, Ny110.out]; exact HP17.1); clear HP17; have n0_ := Aside0.mk (hp_); have n1_ := Aside0.mk ((by rw [hw]; exact below_set (HB.out) GB15.out : Below w.heap.size w w18)); clear HO_11; clear HB; have HO_11 := n0_; have HB := n1_; clear n0_ n1_; clear hg hw hp_) | ((with_reducible refine gate_callee (f := 62) rfl ?_); refine goesL_ (some 41) rfl rfl Tryz.func62 (by kernel_rfl) rfl #[toPtr (.slice A0 l0.length c0), .int .u64 t106, .int .u64 x12_1] rfl (by (try simp only [List.map_toArray, List.map_cons, List.map_nil]); first | done | (rw [hT_HR0] <;> rfl) | rfl | (simp only [List.length_drop, List.length_take]; rfl)) ?_; (try rw [← hT_HR0]); (with_reducible refine (field_Field_Times.calls _ _ l0 t106 x12_1 t111 _ ?side1 ?side2 A16.out).mono ?_); (case side1 => exact cal_ (Kd.C_below HR0.out HB.out)); (case side2 => exact HC0.out); rintro e w' ⟨rfl, ⟨nd, rfl⟩⟩; refine ⟨_, rfl, ?_⟩))
         (try simp only [← hl11_1])
         go_roundg k1
         case measure => have := HK1.out; omega
         case rel => exact ⟨(y110), (t111), (wrap64 (x31_1 + 1)), eq_, eq_, H', ⟨by have := HK1.out; omega⟩, ⟨by (try simp only [hl11_1]); (with_reducible repeat (first | apply Kd.R_alloc | apply Kd.R_drewN | apply Kd.R_drew)); exact HO_11.out⟩, ⟨bel_⟩⟩
        ·rw [if_neg c14] at H
         exact absurd H (by simp)
       ·rw [if_neg c13] at H
        exact absurd H (by simp)
      ·rw [if_neg c12] at H
       have c12b0 := decide_eq_false c12
       (try (have c12b0hl11_1 := c12b0; simp only [hl11_1] at c12b0hl11_1))
       clear c12
       simp only [Option.some.injEq, Prod.mk.injEq] at H
       obtain ⟨rfl, rfl⟩ := H
       go_wp2
       go_ret2
       exact ⟨_, by first | rfl | (simp [errW_none, errW_some] <;> rfl) | (simp [*, errW_none, errW_some] <;> rfl), rel_ HO_11.out, bel_⟩
   ·rw [if_neg c8] at H
    exact absurd H (by simp)
  ·rw [if_neg c7] at H
   exact absurd H (by simp)
 ·rw [if_neg c5] at H
  have c5b0 := beq_eq_false_iff_ne.mpr c5
  have c5b1 := bne_iff_ne.mpr c5
  simp only [Option.some.injEq, Prod.mk.injEq] at H
  obtain ⟨rfl, rfl⟩ := H
  go_enter Tryz.func103, Tryz.ntmps103
  go_wp2_with (first | ((with_reducible refine gate_callee (f := 132) rfl ?_); refine goesL_ (some 18) rfl rfl Tryz.func132 (by kernel_rfl) rfl #[toPtr (.slice A0 l0.length c0), .int .i64 a1, .bool a2] rfl (by (try simp only [List.map_toArray, List.map_cons, List.map_nil]); first | done | (rw [hT_HR0] <;> rfl) | rfl | (simp only [List.length_drop, List.length_take]; rfl)) ?_; (try rw [← hT_HR0]); (with_reducible refine (twiddle_Root.calls k _ _ l0 a1 a2 t104 t105 _ ?side1 ?side2 A4.out).mono ?_); (case side1 => exact cal_ HR0.out); (case side2 => exact HC0.out); rintro e w' ⟨rfl, ⟨nd, rfl⟩⟩; refine ⟨_, rfl, ?_⟩))
  go_ret2
  exact ⟨_, by first | rfl | (simp [errW_none, errW_some] <;> rfl) | (simp [*, errW_none, errW_some] <;> rfl), by first | exact Kd.R_nil _ _ _ _ _ | exact Kd.N_nil _ _ _ _ _ | exact Kd.V_nil _ _ _ _ _ | exact Kd.Q_nil _ _ _ _ _ | exact Kd.S_nil _ _ _ _ _, bel_⟩
end Go.Proofs.YtndkmnjbjlfeaaaGreat.XW
end
section
namespace Go.Proofs.YtndkmnjbjlfeaaaGreat.T10
open Go Go.RowKit Go.Proofs.YtndkmnjbjlfeaaaGreatW.PrintWords Go.Proofs.YtndkmnjbjlfeaaaGreatW.PrintLast Go.Proofs.YtndkmnjbjlfeaaaGreatW.PrintMore Go.Proofs.YtndkmnjbjlfeaaaGreat.Given Go.Proofs.YtndkmnjbjlfeaaaGreat.M Go.Proofs.YtndkmnjbjlfeaaaGreat.Mont Go.Proofs.YtndkmnjbjlfeaaaGreat.XS Go.Proofs.YtndkmnjbjlfeaaaGreat.XT Go.Proofs.YtndkmnjbjlfeaaaGreat.XR Go.Proofs.YtndkmnjbjlfeaaaGreat.Num Go.Proofs.YtndkmnjbjlfeaaaGreat.XK Go.Proofs.YtndkmnjbjlfeaaaGreat.F06 Go.Proofs.YtndkmnjbjlfeaaaGreat.XW
set_option linter.unusedVariables false
def I64 (x : Int) : Prop := -9223372036854775808 ≤ x ∧ x < 9223372036854775808
def powL (p w : Int) (n : Nat) : List Int := (List.range n).map fun i => w ^ i % p
theorem powL_len (p w : Int) (n : Nat) : (powL p w n).length = n := by unfold powL; rw [List.length_map, List.length_range]
theorem powL_at {p w : Int} {n i : Nat} (h : i < n) : (powL p w n)[i]? = some (w ^ i % p) := by
  unfold powL
  rw [List.getElem?_map, List.getElem?_range h]
  rfl
theorem rd_nat (l : List Int) (i : Nat) : rd l (i : Int) = l.getD i 0 := by unfold rd; rw [Int.toNat_natCast]
theorem rd_powL {p w : Int} {n i : Nat} (h : i < n) : rd (powL p w n) (i : Int) = w ^ i % p := by
  rw [rd_nat, List.getD_eq_getElem?_getD, powL_at h]
  rfl
theorem rd_mem {l : List Int} {i : Nat} (h : i < l.length) : rd l (i : Int) ∈ l := by
  rw [rd_nat, List.getD_eq_getElem?_getD, List.getElem?_eq_getElem h]
  exact List.getElem_mem h
theorem wrap_succ {i : Nat} (h : i ≤ 1000000000) : wrap64 ((i : Int) + 1) = ((i + 1 : Nat) : Int) := by rw [w64_id _ (by omega) (by omega)]; omega
noncomputable def trootI (F : Fld) (n : Int) (inv : Bool) : Int := if inv = true then invF F.p (rootI F n) else rootI F n
theorem rootI_range {F : Fld} (hg : GoodFld F) (n : Int) : 0 ≤ rootI F n ∧ rootI F n < F.p := ⟨Int.emod_nonneg _ hg.ne, Int.emod_lt_of_pos _ (by have := hg.lo; omega)⟩
theorem trootI_range {F : Fld} (hg : GoodFld F) (n : Int) (inv : Bool) : 0 ≤ trootI F n inv ∧ trootI F n inv < F.p := by
  have hlo := hg.lo
  unfold trootI
  split
  · by_cases h : rootI F n % F.p = 0
    · rw [hg.inv0 h]; omega
    · obtain ⟨_, _, _, h0, h1⟩ := hg.inv h
      exact ⟨h0, h1⟩
  · exact rootI_range hg n
theorem troot_U {F : Fld} (hg : GoodFld F) (n : Int) (inv : Bool) : U (trootI F n inv) := by
  have := trootI_range hg n inv
  have := hg.hi
  unfold U; omega
theorem pow_inv_one {F : Fld} (hg : GoodFld F) {u w : Int} (h : u * w % F.p = 1) (k : Nat) : u ^ k * w ^ k % F.p = 1 := by
  rw [← Int.mul_pow, ← emod_pow, h, Int.one_pow]
  exact hg.one
theorem troot_ord {F : Fld} (hg : GoodFld F) {n : Int} (hn : 0 < n) (hd : (F.p - 1) % n = 0) (inv : Bool) (k : Nat) : trootI F n inv ^ k % F.p = 1 ↔ n.toNat ∣ k := by
  cases inv with
  | false => exact hg.root_ord hn hd k
  | true =>
    rw [← hg.root_ord hn hd k]
    show invF F.p (rootI F n) ^ k % F.p = 1 ↔ _
    have h := pow_inv_one hg (hg.inv (hg.root_ne hn hd)).2.1 k
    constructor
    · intro e
      rw [← emod_mul_l, e, Int.one_mul] at h
      exact h
    · intro e
      rw [← emod_mul_r, e, Int.mul_one] at h
      exact h
noncomputable def trootS (F : Fld) (n : Int) (inv : Bool) : Int × Int := if n < 1 then (0, 1) else if n > 4096 then (0, 13) else if (F.p - 1) % n = 0 then (trootI F n inv, 0) else (0, 4)
theorem troot_ev {F : Fld} (hg : GoodFld F) {n : Int} (hn : I64 n) (inv : Bool) : Ev (fun k => twiddle_Root.f k [F] n inv) (trootS F n inv) := by
  refine Ev.congr (f := fun k => if n < 1 then some (0, 1) else (if n > 4096 then some (0, 13) else ((field_Field_Root.f [F] n).bind fun bt113 => (if bt113.2 = 0 then (twiddle_Root.j0 k [F] bt113.1 bt113.2 inv) else (twiddle_Root.j0 k [F] bt113.1 bt113.2 false))))) (fun k => by unfold twiddle_Root.f; rw [if_neg (by simp)]) ?_
  unfold trootS
  by_cases h1 : n < 1
  · rw [if_pos h1]; exact evP h1 (Ev.now _)
  rw [if_neg h1]
  refine evN h1 ?_
  by_cases h2 : n > 4096
  · rw [if_pos h2]; exact evP h2 (Ev.now _)
  rw [if_neg h2]
  refine evN h2 ?_
  have hj : ∀ w e, Ev (fun k => twiddle_Root.j0 k [F] w e false) (w, e) := fun w e => stepE ⟨_, fun k => by simp only [twiddle_Root.j0]; rw [if_neg (by decide)], Ev.now _⟩
  by_cases hd : (F.p - 1) % n = 0
  · rw [if_pos hd]
    refine evB (Root_at F hn.2 (by omega) hd) (evP rfl ?_)
    cases inv with
    | false => exact hj _ _
    | true => exact stepE ⟨_, fun k => by simp only [twiddle_Root.j0]; rw [if_pos trivial], evB (field_Field_Inv.at_ (hg.uRoot n)) (Ev.now _)⟩
  · rw [if_neg hd]
    refine evB (Root_not F hn.2 (fun h => hd h.2)) (evN (by decide) (hj _ _))
theorem table_l0 {F : Fld} (hg : GoodFld F) {w : Int} {n : Nat} (hn : n ≤ 4096) (d : Nat) : ∀ (i : Nat) (l : List Int), i + d = n → l.length = n → (∀ j, j < i → l[j]? = some (w ^ j % F.p)) →
    Ev (fun k => twiddle_Table.l0 k [F] (mIn F.p w) l (w ^ i % F.p) (n : Int) (i : Int)) (powL F.p w n, 0) := by
  induction d with
  | zero =>
    intro i l hi hl hj
    refine stepE ⟨_, fun k => by simp only [twiddle_Table.l0]; rw [if_neg (by omega)], evR (Ev.now _) ?_⟩
    congr 1
    refine List.ext_getElem? fun j => ?_
    by_cases c : j < n
    · rw [hj j (by omega), powL_at c]
    · rw [List.getElem?_eq_none (by omega), List.getElem?_eq_none (by rw [powL_len]; omega)]
  | succ d ih =>
    intro i l hi hl hj
    have T := field_Field_Times.at_ (F := F) (l := []) ⟨show U (mIn F.p w) from hg.uE _, hg.uE (w ^ i)⟩
    rw [mul_in hg.m, emod_mul_r, Int.mul_comm, ← Int.pow_succ] at T
    refine stepE ⟨_, fun k => by simp only [twiddle_Table.l0]; rw [if_pos (by omega), if_pos (by omega), if_pos (by omega), wrap_succ (by omega), Int.toNat_natCast], ?_⟩
    refine evB T (ih (i + 1) (l.set i (w ^ i % F.p)) (by omega) (by rw [List.length_set]; exact hl) fun j hj' => ?_)
    by_cases c : j = i
    · subst c
      rw [List.getElem?_set_self (by omega)]
    · rw [List.getElem?_set_ne (by omega)]
      exact hj j (by omega)
theorem table_ev {F : Fld} (hg : GoodFld F) {n : Int} (h1 : 1 ≤ n) (h2 : n ≤ 4096) (hd : (F.p - 1) % n = 0) (inv : Bool) : Ev (fun k => twiddle_Table.f k [F] n inv) (powL F.p (trootI F n inv) n.toNat, 0) := by
  have R := troot_ev hg (n := n) ⟨by omega, by omega⟩ inv
  have e : trootS F n inv = (trootI F n inv, 0) := by unfold trootS; rw [if_neg (by omega), if_neg (by omega), if_pos hd]
  rw [e] at R
  refine Ev.congr (fun k => rfl) (Ev.bind R (evP rfl (evB (field_Field_Lift.at_ (F := F) (l := []) (troot_U hg n inv)) (evP (by omega) (evP (by omega) ?_)))))
  have T := table_l0 hg (w := trootI F n inv) (n := n.toNat) (by omega) n.toNat 0 (List.replicate n.toNat 0) (by omega) (List.length_replicate) (fun j hj => by omega)
  rw [Int.pow_zero, hg.one] at T
  refine Ev.congr (fun k => ?_) T
  simp only [Option.bind_some, List.length_replicate]
  rfl
end Go.Proofs.YtndkmnjbjlfeaaaGreat.T10
end
section
namespace Go.Proofs.YtndkmnjbjlfeaaaGreat.D11
open Go Go.RowKit Go.Proofs.YtndkmnjbjlfeaaaGreatW.PrintWords Go.Proofs.YtndkmnjbjlfeaaaGreat.M Go.Proofs.YtndkmnjbjlfeaaaGreat.Mont Go.Proofs.YtndkmnjbjlfeaaaGreat.Num Go.Proofs.YtndkmnjbjlfeaaaGreat.F06 Go.Proofs.YtndkmnjbjlfeaaaGreat.T10
def sumN (f : Nat → Int) : Nat → Int
  | 0 => 0
  | n + 1 => sumN f n + f n
theorem sumN_succ (f : Nat → Int) (n : Nat) : sumN f (n + 1) = sumN f n + f n := rfl
theorem sumN_congr {f g : Nat → Int} {n : Nat} (h : ∀ i, i < n → f i = g i) : sumN f n = sumN g n := by
  induction n with
  | zero => rfl
  | succ n ih => rw [sumN_succ, sumN_succ, ih fun i hi => h i (by omega), h n (by omega)]
theorem sumN_add (f g : Nat → Int) (n : Nat) : sumN (fun i => f i + g i) n = sumN f n + sumN g n := by
  induction n with
  | zero => rfl
  | succ n ih => rw [sumN_succ, sumN_succ, sumN_succ, ih]; omega
theorem sumN_mul (c : Int) (f : Nat → Int) (n : Nat) : sumN (fun i => c * f i) n = c * sumN f n := by
  induction n with
  | zero => show 0 = c * 0; rw [Int.mul_zero]
  | succ n ih => rw [sumN_succ, sumN_succ, ih, Int.mul_add]
theorem sumN_mulr (c : Int) (f : Nat → Int) (n : Nat) : sumN (fun i => f i * c) n = sumN f n * c := by
  rw [Int.mul_comm, ← sumN_mul]
  exact sumN_congr fun i _ => Int.mul_comm _ _
theorem sumN_zero (n : Nat) : sumN (fun _ => 0) n = 0 := by
  induction n with
  | zero => rfl
  | succ n ih => rw [sumN_succ, ih]; rfl
theorem sumN_comm (f : Nat → Nat → Int) (n m : Nat) : sumN (fun i => sumN (fun j => f i j) m) n = sumN (fun j => sumN (fun i => f i j) n) m := by
  induction n with
  | zero => exact (sumN_zero m).symm
  | succ n ih => rw [sumN_succ, ih, ← sumN_add]; rfl
theorem sumN_split (f : Nat → Int) (a b : Nat) : sumN f (a + b) = sumN f a + sumN (fun i => f (a + i)) b := by
  induction b with
  | zero => show sumN f a = sumN f a + 0; omega
  | succ b ih => rw [← Nat.add_assoc, sumN_succ, ih, sumN_succ]; omega
theorem add_cong {p a b c d : Int} (h : a % p = b % p) (h' : c % p = d % p) : (a + c) % p = (b + d) % p := by rw [Int.add_emod, h, h', ← Int.add_emod]
theorem mul_cong {p a b c d : Int} (h : a % p = b % p) (h' : c % p = d % p) : a * c % p = b * d % p := by rw [Int.mul_emod, h, h', ← Int.mul_emod]
theorem sumN_mod {p : Int} {f g : Nat → Int} {n : Nat} (h : ∀ i, i < n → f i % p = g i % p) : sumN f n % p = sumN g n % p := by
  induction n with
  | zero => rfl
  | succ n ih => exact add_cong (ih fun i hi => h i (by omega)) (h n (by omega))
theorem sumN_one {p : Int} {f : Nat → Int} {n k : Nat} (hk : k < n) (h : ∀ i, i < n → i ≠ k → f i % p = 0) : sumN f n % p = f k % p := by
  have e : sumN f n % p = sumN (fun i => if i = k then f k else 0) n % p := sumN_mod fun i hi => by
    by_cases c : i = k
    · rw [if_pos c, c]
    · rw [if_neg c, h i hi c, Int.zero_emod]
  rw [e]
  obtain ⟨m, rfl⟩ : ∃ m, n = k + (1 + m) := ⟨n - k - 1, by omega⟩
  rw [sumN_split, sumN_split]
  have e1 : sumN (fun i => if i = k then f k else 0) k = 0 := (sumN_congr fun i hi => if_neg (show ¬ i = k by omega)).trans (sumN_zero k)
  have e2 : sumN (fun i => if k + i = k then f k else 0) 1 = f k := by show 0 + (if k + 0 = k then f k else 0) = f k; rw [if_pos (Nat.add_zero k)]; omega
  have e3 : sumN (fun i => if k + (1 + i) = k then f k else 0) m = 0 := (sumN_congr fun i hi => if_neg (show ¬ k + (1 + i) = k by omega)).trans (sumN_zero m)
  rw [e1, e2, e3]
  congr 1
  omega
theorem sumN_geo (x : Int) (n : Nat) : sumN (fun i => x ^ i) n = geo x n := by
  induction n with
  | zero => rfl
  | succ n ih => rw [sumN_succ, ih]; rfl
structure Roots (F : Fld) (n : Nat) (w v : Int) : Prop where
  good : GoodFld F
  pos : 1 ≤ n
  lt : (n : Int) < F.p
  w_ord : ∀ k, w ^ k % F.p = 1 ↔ n ∣ k
  v_ord : ∀ k, v ^ k % F.p = 1 ↔ n ∣ k
  one : w * v % F.p = 1
variable {F : Fld} {n : Nat} {w v : Int}
theorem Roots.swap (R : Roots F n w v) : Roots F n v w := ⟨R.good, R.pos, R.lt, R.v_ord, R.w_ord, by rw [Int.mul_comm]; exact R.one⟩
theorem Roots.ones (R : Roots F n w v) (k : Nat) : w ^ k * v ^ k % F.p = 1 := pow_inv_one R.good R.one k
theorem Roots.ne (R : Roots F n w v) (k : Nat) : w ^ k % F.p ≠ 0 := by
  intro c
  have h := R.ones k
  rw [← emod_mul_l, c, Int.zero_mul, Int.zero_emod] at h
  omega
theorem Roots.inj (R : Roots F n w v) {a b : Nat} (ha : a < n) (hb : b < n) (h : w ^ a % F.p = w ^ b % F.p) : a = b := by
  have key : ∀ x y : Nat, x ≤ y → y < n → w ^ x % F.p = w ^ y % F.p → x = y := by
    intro x y hxy hy e
    have e' : w ^ (y - x) * w ^ x % F.p = 1 * w ^ x % F.p := by rw [← Int.pow_add, Nat.sub_add_cancel hxy, Int.one_mul, e]
    have := R.good.cancel (R.ne x) e'
    rw [R.good.one] at this
    have := (R.w_ord (y - x)).1 this
    by_cases c : y - x = 0
    · omega
    · have := Nat.le_of_dvd (by omega) this
      omega
  rcases Nat.le_total a b with c | c
  · exact key a b c hb h
  · exact (key b a c ha h.symm).symm
theorem Roots.cross (R : Roots F n w v) {a b : Nat} (ha : a < n) (hb : b < n) : w ^ a * v ^ b % F.p = 1 ↔ a = b := by
  constructor
  · intro h
    refine R.inj ha hb ?_
    refine R.good.cancel (c := v ^ b) (R.swap.ne b) ?_
    rw [h, R.ones b]
  · rintro rfl
    exact R.ones a
theorem ortho (hg : GoodFld F) {x : Int} (h1 : x ^ n % F.p = 1) : sumN (fun i => x ^ i) n % F.p = if x % F.p = 1 then (n : Int) % F.p else 0 := by
  rw [sumN_geo]
  by_cases c : x % F.p = 1
  · rw [if_pos c]; exact geo_one (by rw [c, hg.one]) n
  · rw [if_neg c]; exact hg.geo_zero h1 c
theorem Roots.sum (R : Roots F n w v) {a b : Nat} (ha : a < n) (hb : b < n) : sumN (fun i => w ^ (i * a) * v ^ (b * i)) n % F.p = if a = b then (n : Int) % F.p else 0 := by
  have e : sumN (fun i => w ^ (i * a) * v ^ (b * i)) n = sumN (fun i => (w ^ a * v ^ b) ^ i) n := sumN_congr fun i _ => by
    rw [Int.mul_pow, ← Int.pow_mul, ← Int.pow_mul, Nat.mul_comm i a]
  have h1 : (w ^ a * v ^ b) ^ n % F.p = 1 := by
    rw [Int.mul_pow, ← Int.pow_mul, ← Int.pow_mul, ← emod_mul_l, (R.w_ord (a * n)).2 (Nat.dvd_mul_left _ _), Int.one_mul]
    exact (R.v_ord _).2 (Nat.dvd_mul_left _ _)
  rw [e, ortho R.good h1]
  by_cases c : a = b
  · rw [if_pos c, if_pos ((R.cross ha hb).2 c)]
  · rw [if_neg c, if_neg fun h => c ((R.cross ha hb).1 h)]
theorem Roots.n_ne (R : Roots F n w v) : (n : Int) % F.p ≠ 0 := by
  have := R.pos
  have := R.lt
  rw [Int.emod_eq_of_lt (by omega) (by omega)]
  omega
def dftA (w : Int) (f : Nat → Int) (n i : Nat) : Int := sumN (fun j => w ^ (i * j) * f j) n
theorem Roots.back (R : Roots F n w v) (f : Nat → Int) {k : Nat} (hk : k < n) : dftA v (fun i => dftA w f n i) n k % F.p = n * f k % F.p := by
  unfold dftA
  have e : sumN (fun j => v ^ (k * j) * sumN (fun j_1 => w ^ (j * j_1) * f j_1) n) n = sumN (fun j => sumN (fun i => w ^ (i * j) * v ^ (k * i)) n * f j) n := by
    have e1 : sumN (fun j => v ^ (k * j) * sumN (fun j_1 => w ^ (j * j_1) * f j_1) n) n = sumN (fun i => sumN (fun j => w ^ (i * j) * v ^ (k * i) * f j) n) n := sumN_congr fun i _ => by
      rw [← sumN_mul]
      exact sumN_congr fun j _ => by rw [Int.mul_left_comm, Int.mul_assoc]
    rw [e1, sumN_comm]
    exact sumN_congr fun j _ => sumN_mulr _ _ _
  rw [e, sumN_one hk fun j hj hne => by rw [← emod_mul_l, R.sum hj hk, if_neg hne, Int.zero_mul, Int.zero_emod]]
  rw [← emod_mul_l, R.sum hk hk, if_pos rfl, emod_mul_l]
end Go.Proofs.YtndkmnjbjlfeaaaGreat.D11
end
section
namespace Go.Proofs.YtndkmnjbjlfeaaaGreat.D11
open Go Go.RowKit Go.Proofs.YtndkmnjbjlfeaaaGreatW.PrintWords Go.Proofs.YtndkmnjbjlfeaaaGreat.M Go.Proofs.YtndkmnjbjlfeaaaGreat.Mont Go.Proofs.YtndkmnjbjlfeaaaGreat.Num Go.Proofs.YtndkmnjbjlfeaaaGreat.F06 Go.Proofs.YtndkmnjbjlfeaaaGreat.T10
variable {F : Fld} {n : Nat} {w v : Int}
theorem Roots.expo (R : Roots F n w v) (a : Nat) : w ^ a % F.p = w ^ (a % n) % F.p := by
  have h : w ^ (n * (a / n)) % F.p = 1 := (R.w_ord _).2 (Nat.dvd_mul_right _ _)
  have e : w ^ a = w ^ (n * (a / n)) * w ^ (a % n) := by rw [← Int.pow_add, Nat.div_add_mod]
  rw [e, ← emod_mul_l, h, Int.one_mul]
theorem Roots.other (R : Roots F n w v) (f : Nat → Int) {k k' : Nat} (h : n ∣ k + k') : dftA w f n k % F.p = dftA v f n k' % F.p := by
  refine sumN_mod fun j _ => mul_cong ?_ rfl
  have h1 : w ^ (k' * j) * v ^ (k' * j) % F.p = 1 := R.ones _
  have h2 : w ^ (k * j + k' * j) % F.p = 1 := (R.w_ord _).2 (by rw [← Nat.add_mul]; exact Nat.dvd_trans h (Nat.dvd_mul_right _ _))
  have e : w ^ (k * j) * (w ^ (k' * j) * v ^ (k' * j)) % F.p = 1 * v ^ (k' * j) % F.p := by
    rw [← Int.mul_assoc, ← Int.pow_add]
    exact mul_cong (by rw [h2, R.good.one]) rfl
  rw [Int.one_mul, Int.mul_comm, ← emod_mul_l, h1, Int.one_mul] at e
  exact e
theorem neg_dvd {k : Nat} (hk : k < n) : n ∣ k + (n - k) % n := by
  by_cases c : k = 0
  · subst c
    rw [Nat.sub_zero, Nat.mod_self]
    exact Nat.dvd_zero n
  · rw [Nat.mod_eq_of_lt (by omega), show k + (n - k) = n by omega]
    exact Nat.dvd_refl n
theorem Roots.twice (R : Roots F n w v) (f : Nat → Int) {j : Nat} (hj : j < n) : dftA w (fun i => dftA w f n i) n ((n - j) % n) % F.p = n * f j % F.p := by
  rw [R.other (fun i => dftA w f n i) (k' := j) (by rw [Nat.add_comm]; exact neg_dvd hj), R.back f hj]
end Go.Proofs.YtndkmnjbjlfeaaaGreat.D11
end
section
namespace Go.Proofs.YtndkmnjbjlfeaaaGreat.XW
open Go Go.RowKit Go.Proofs.YtndkmnjbjlfeaaaGreatW.PrintWords Go.Proofs.YtndkmnjbjlfeaaaGreatW.PrintLast Go.Proofs.YtndkmnjbjlfeaaaGreatW.PrintMore Go.Proofs.YtndkmnjbjlfeaaaGreat.Given Go.Proofs.YtndkmnjbjlfeaaaGreat.M Go.Proofs.YtndkmnjbjlfeaaaGreat.Mont Go.Proofs.YtndkmnjbjlfeaaaGreat.XS Go.Proofs.YtndkmnjbjlfeaaaGreat.XT Go.Proofs.YtndkmnjbjlfeaaaGreat.XR Go.Proofs.YtndkmnjbjlfeaaaGreat.F06
def liftV (l0 : List Fld) (x : Int) : Int := match l0 with
  | [] => 0
  | F :: _ => mIn F.p x
theorem liftV_f {l0 : List Fld} {x : Int} (h : U x) : field_Field_Lift.f l0 x = some (liftV l0 x) := by
  unfold field_Field_Lift.f liftV
  rw [if_pos h]
  cases l0 <;> rfl
noncomputable def twiddle_Lifted.f (k : Nat) (l0 : List Fld) (a1 : Int) (a2 : Bool) : Option (List Int × Int) :=
  (twiddle_Table.f k l0 a1 a2).bind fun t => if (∀ x ∈ t.1, U x) ∧ t.1.length ≤ 1000000 then some (t.1.map (liftV l0), t.2) else none
def mixL (l0 : List Fld) (t : List Int) (i : Nat) : List Int := (t.take i).map (liftV l0) ++ t.drop i
theorem mix_len (l0 : List Fld) {t : List Int} {i : Nat} (h : i ≤ t.length) : (mixL l0 t i).length = t.length := by
  unfold mixL
  rw [List.length_append, List.length_map, List.length_take, List.length_drop]
  omega
theorem mix_rd (l0 : List Fld) {t : List Int} {i : Nat} (h : i < t.length) : (mixL l0 t i).getD i 0 = t[i] := by
  unfold mixL
  have hl : ((t.take i).map (liftV l0)).length = i := by rw [List.length_map, List.length_take]; omega
  rw [List.getD_eq_getElem?_getD, List.getElem?_append_right (by omega), hl, Nat.sub_self, List.getElem?_drop, Nat.add_zero, List.getElem?_eq_getElem h]
  rfl
theorem mix_set (l0 : List Fld) {t : List Int} {i : Nat} (h : i < t.length) : (mixL l0 t i).set i (liftV l0 t[i]) = mixL l0 t (i + 1) := by
  unfold mixL
  have hl : ((t.take i).map (liftV l0)).length = i := by rw [List.length_map, List.length_take]; omega
  rw [List.set_append_right _ _ (by omega), hl, Nat.sub_self, List.drop_eq_getElem_cons h, List.set_cons_zero, List.take_succ_eq_append_getElem h, List.map_append, List.append_assoc]
  rfl
set_option maxHeartbeats 4000000 in
set_option maxRecDepth 100000 in
theorem twiddle_Lifted.calls (k : Nat) (A0 : Option Addr) (c0 : Nat) (l0 : List (Fld)) (a1 : Int) (a2 : Bool) (r1 : List Int) (r2 : Int) (w : World) (hr0 : Kd.C kFld w A0 l0.length l0) (hc0 : l0.length ≤ c0) (h : twiddle_Lifted.f k l0 a1 a2 = some (r1, r2)) :
    Calls Tryz.prog 66 #[toPtr (.slice A0 l0.length c0), .int .i64 a1, .bool a2] w fun e w' => ∃ v0_ : Value, e = .returned (.tuple #[v0_, .int .i64 r2]) ∧ Kd.R (Kd.int .u64) 22 w' w.heap.size (fun _ => True) v0_ r1 ∧ Below w.heap.size w w' := by
  unfold twiddle_Lifted.f at h
  obtain ⟨⟨t1, t2⟩, hA, h⟩ := Option.bind_eq_some_iff.1 h
  simp only at h
  split at h
  case isFalse => cases h
  rename_i hu
  obtain ⟨rfl, rfl⟩ := Prod.mk.inj (Option.some.inj h)
  obtain ⟨hu, hn⟩ := hu
  have HA := Aside0.mk hA
  have HR0 := Aside0.mk hr0
  have HC0 := Aside0.mk hc0
  have HU := Aside0.mk hu
  have HN := Aside0.mk hn
  clear hA hr0 hc0 hu hn h
  go_enter Tryz.func66, Tryz.ntmps66
  go_wp2_with (first
    | (go_at_call 103; (with_reducible refine (twiddle_Table.calls k A0 c0 l0 a1 a2 t1 t2 _ HR0.out HC0.out HA.out).mono ?_); rintro e w1 ⟨v1, rfl, ho, hb⟩; obtain ⟨A1, c1, rfl⟩ := Kd.R_slice ho; have HO1 := Aside0.mk ho; have HB1 := Aside0.mk hb; clear ho hb))
  clear HA
  go_loopw [21] (fun v21 wr => ∃ (x : Int), v21 = .int .i64 x ∧ 0 ≤ x ∧ x ≤ (t1.length : Int) ∧ Aside0 (Kd.R (Kd.int .u64) 22 wr w.heap.size (fun _ => True) (.slice A1 t1.length c1) (mixL l0 t1 x.toNat)) ∧ Aside0 (Below w.heap.size w wr)) (fun v21 _ => t1.length - (intOf v21).toNat)
  case atStart => exact ⟨0, rfl, Int.le_refl _, Int.natCast_nonneg _, ⟨HO1.out⟩, ⟨HB1.out⟩⟩
  case round =>
    clear HO1 HB1
    obtain ⟨x, rfl, h0, hx, HO, HB⟩ := hrel
    by_cases hlt : x < (t1.length : Int)
    · have c1b0 : decide (x < (t1.length : Int)) = true := decide_eq_true hlt
      have hi : x.toNat < t1.length := by omega
      obtain ⟨y, hy⟩ : ∃ y, y = t1[x.toNat] := ⟨_, rfl⟩
      have hL := liftV_f (l0 := l0) (HU.out y (by rw [hy]; exact List.getElem_mem hi))
      have hset := mix_set l0 hi
      have hrd := mix_rd l0 hi
      rw [← hy] at hset hrd
      have HL := Aside0.mk hL
      have HS := Aside0.mk hset
      have ml := mix_len l0 (t := t1) (i := x.toNat) (by omega)
      obtain ⟨g, cap, eo, gb, gl, HG⟩ := Kd.R_form HO.out (by omega)
      injection eo with ea en ec
      subst ea
      have GB := Aside0.mk gb
      obtain ⟨hx_0, hf_0⟩ := Kd.R_celln 0 HO.out x h0 hlt
      have erd : rdOf 0 (mixL l0 t1 x.toNat) x = y := hrd
      rw [erd] at hx_0
      have p1 := eq_true h0
      have q1 := eq_true hlt
      have HLT := Aside0.mk hlt
      have H0 := Aside0.mk h0
      clear hL hset hrd ml en ec gb gl HG erd hy hi hlt hx h0
      go_wp2_with (first
        | (go_at_call 60; (with_reducible refine (field_Field_Lift.calls A0 c0 l0 y (liftV l0 y) _ (Kd.C_below HR0.out HB.out) HC0.out HL.out).mono ?_); rintro e w2 ⟨rfl, ⟨nd, hnd⟩⟩; have HO2 : Aside0 (Kd.R (Kd.int .u64) 22 w2 w.heap.size (fun _ => True) (.slice (some ⟨g, 0, none⟩) t1.length c1) (mixL l0 t1 x.toNat)) := ⟨by rw [hnd]; exact Kd.R_drewN HO.out nd⟩; have HB2 : Aside0 (Below w.heap.size w w2) := ⟨by rw [hnd]; exact pw_below_drewN HB.out nd⟩; have hf2 : w2.frozen? ⟨g, x.toNat, none⟩ = false := (by rw [hnd]; exact hf_0); have hx2 : w2.cell? ⟨g, x.toNat, none⟩ = some (.int .u64 y) := (by rw [hnd]; exact hx_0); clear hnd))
      go_roundw
      case rel =>
        have := HLT.out
        have := H0.out
        have hn := HN.out
        exact ⟨x + 1, congrArg (Value.int .i64) (w64_id (x + 1) (by omega) (by omega)), by omega, by omega, ⟨by rw [show (x + 1).toNat = x.toNat + 1 by omega, ← HS.out]; exact (Kd.R_putg HO2.out x (liftV l0 y)).1⟩, ⟨below_set HB2.out GB.out⟩⟩
      case measure =>
        have := HLT.out
        have := H0.out
        have hn := HN.out
        rw [w64_id (x + 1) (by omega) (by omega)]
        simp [intOf]; omega
    · have c1b0 : decide (x < (t1.length : Int)) = false := decide_eq_false hlt
      have hm : mixL l0 t1 x.toNat = t1.map (liftV l0) := by
        unfold mixL
        rw [List.take_of_length_le (by omega), List.drop_eq_nil_of_le (by omega), List.append_nil]
      have HM := Aside0.mk hm
      clear hm hlt hx h0
      go_wp2
      go_ret2
      exact ⟨_, by first | rfl | (simp; done), by rw [← HM.out]; exact HO.out, HB.out⟩
end Go.Proofs.YtndkmnjbjlfeaaaGreat.XW
end
section
namespace Go.Proofs.YtndkmnjbjlfeaaaGreat.XG
open Go.RowKit Go.Proofs.YtndkmnjbjlfeaaaGreat.Given Go.Proofs.YtndkmnjbjlfeaaaGreat.Row05 Go.Proofs.YtndkmnjbjlfeaaaGreat.XS Go.Proofs.YtndkmnjbjlfeaaaGreat.XT Go.Proofs.YtndkmnjbjlfeaaaGreat.XR Go.Proofs.YtndkmnjbjlfeaaaGreat.F06 Go.Proofs.YtndkmnjbjlfeaaaGreat.XK Go.Proofs.YtndkmnjbjlfeaaaGreat.XW Go.Proofs.YtndkmnjbjlfeaaaGreatW.PrintWords Go.Proofs.YtndkmnjbjlfeaaaGreatW.PrintLast Go.Proofs.YtndkmnjbjlfeaaaGreatW.PrintMore
attribute [local go_sem] max2_int min2_int max_two min_two max_three min_three max_four min_four   -- for this text's walks alone
set_option linter.unusedVariables false
set_option linter.unusedSimpArgs false
noncomputable def epicycleref11_Check.f (a0 : Int) (a1 : Int) (a2 : Int) : Option (Int) := if a1 < 1 then (some 1) else (if a1 > a2 then (some 13) else (if (IntKind.u64.wrap (a1)) = 0 then (none) else (if (Int.tmod (IntKind.u64.wrap (a0 - 1)) (IntKind.u64.wrap (a1))) = 0 then (some 0) else (some 4))))
set_option maxHeartbeats 8000000 in
set_option maxRecDepth 100000 in
theorem epicycleref11_Check.calls (a0 : Int) (a1 : Int) (a2 : Int) (r : Int) (w : World) (h : epicycleref11_Check.f a0 a1 a2 = some r) :
  Calls Tryz.prog 20 #[.int .u64 a0, .int .i64 a1, .int .i64 a2] w fun e w' => e = .returned (.int .i64 r) ∧ Drawn0 w w' := by
 have H := h; unfold epicycleref11_Check.f at H
 clear h
 by_cases c4 : a1 < 1
 ·rw [if_pos c4] at H
  have c4b0 := decide_eq_true c4
  clear c4
  obtain rfl := Option.some.inj H
  go_enter Tryz.func20, Tryz.ntmps20
  go_wp2
  go_ret
  exact ⟨eq_, dw_⟩
 ·rw [if_neg c4] at H
  have c4b0 := decide_eq_false c4
  clear c4
  by_cases c5 : a1 > a2
  ·rw [if_pos c5] at H
   have c5b0 := decide_eq_true c5
   clear c5
   obtain rfl := Option.some.inj H
   go_enter Tryz.func20, Tryz.ntmps20
   go_wp2
   go_ret
   exact ⟨eq_, dw_⟩
  ·rw [if_neg c5] at H
   have c5b0 := decide_eq_false c5
   clear c5
   by_cases c6 : (IntKind.u64.wrap (a1)) = 0
   ·rw [if_pos c6] at H
    exact absurd H (by simp)
   ·rw [if_neg c6] at H
    have c6b0 := beq_eq_false_iff_ne.mpr c6
    have c6b1 := bne_iff_ne.mpr c6
    by_cases c7 : (Int.tmod (IntKind.u64.wrap (a0 - 1)) (IntKind.u64.wrap (a1))) = 0
    ·rw [if_pos c7] at H
     have c7b0 := beq_iff_eq.mpr c7
     have c7b1 := bne_eq_false_iff_eq.mpr c7
     clear c7
     obtain rfl := Option.some.inj H
     go_enter Tryz.func20, Tryz.ntmps20
     go_wp2
     go_ret
     exact ⟨eq_, dw_⟩
    ·rw [if_neg c7] at H
     have c7b0 := beq_eq_false_iff_ne.mpr c7
     have c7b1 := bne_iff_ne.mpr c7
     obtain rfl := Option.some.inj H
     go_enter Tryz.func20, Tryz.ntmps20
     go_wp2
     go_ret
     exact ⟨eq_, dw_⟩
noncomputable def epicycleref11_Good.l0 : Nat → Int → List Int → Int → Int → Option (Bool)
 | 0, _, _, _, _ => none
 | k + 1, x0, x7, x8, x9 => if x9 < x8 then (if 0 ≤ x9 then (if x9 < (x7.length : Int) then (if (rd x7 x9) ≥ x0 then (some false) else (epicycleref11_Good.l0 k x0 x7 x8 (wrap64 (x9 + 1)))) else (none)) else (none)) else (some true)
noncomputable def epicycleref11_Good.f (k : Nat) (a0 : Int) (l1 : List Int) : Option (Bool) := epicycleref11_Good.l0 k a0 l1 (l1.length : Int) 0
set_option maxHeartbeats 8000000 in
set_option maxRecDepth 100000 in
theorem epicycleref11_Good.calls (k : Nat) (a0 : Int) (A1 : Option Addr) (c1 : Nat) (l1 : List Int) (r : Bool) (w : World) (hr1 : Kd.C (Kd.int .u64) w A1 l1.length l1) (hc1 : l1.length ≤ c1) (h : epicycleref11_Good.f k a0 l1 = some r) :
  Calls Tryz.prog 21 #[.int .u64 a0, .slice A1 l1.length c1] w fun e w' => e = .returned (.bool r) ∧ Drawn0 w w' := by
 have HR1 := Aside0.mk hr1
 have HC1 := Aside0.mk hc1
 clear hr1 hc1
 have H := h; unfold epicycleref11_Good.f at H
 clear h
 have H' := Aside0.mk H
 clear H
 go_enter Tryz.func21, Tryz.ntmps21
 go_wp2
 go_loopg [9] k (fun kq v9 w' => ∃ (x9_1 : Int), v9 = .int .i64 x9_1 ∧ Aside0 (epicycleref11_Good.l0 kq a0 l1 (l1.length : Int) x9_1 = some r) ∧ Aside0 (kq ≤ k) ∧ Drawn0 w w')
 case atStart => exact ⟨(0), eq_, H', ⟨Nat.le_refl _⟩, dw_⟩
 case round =>
  clear H'
  obtain ⟨x9_1, rfl, HA, HK1, ⟨m1, rfl⟩⟩ := hrel
  cases gk with
  | zero => exact absurd HA.out (by simp [epicycleref11_Good.l0])
  | succ k1 =>
   have H := HA.out
   clear HA
   simp only [epicycleref11_Good.l0] at H
   by_cases c3 : x9_1 < (l1.length : Int)
   ·rw [if_pos c3] at H
    have c3b0 := decide_eq_true c3
    clear c3
    by_cases c4 : 0 ≤ x9_1
    ·rw [if_pos c4] at H
     have c4b0 := decide_eq_true c4
     clear c4
     by_cases c5 : x9_1 < (l1.length : Int)
     ·rw [if_pos c5] at H
      have c5b0 := decide_eq_true c5
      clear c5
      by_cases c6 : (rd l1 x9_1) ≥ a0
      ·rw [if_pos c6] at H
       have c6b0 := decide_eq_true c6
       clear c6
       obtain rfl := Option.some.inj H
       have p179 : 0 ≤ (x9_1 : Int) := of_decide_eq_true (by assumption)
       have q179 : x9_1 < (l1.length : Int) := of_decide_eq_true (by assumption)
       obtain ⟨ad179, e179, hx179_0⟩ := Kd.at_int HR1.out x9_1 p179 q179
       cases e179
       replace p179 := eq_true p179
       replace q179 := eq_true q179
       go_wp2
       go_ret
       exact ⟨eq_, dw_⟩
      ·rw [if_neg c6] at H
       have c6b0 := decide_eq_false c6
       clear c6
       have H' := Aside0.mk H
       clear H
       have p179 : 0 ≤ (x9_1 : Int) := of_decide_eq_true (by assumption)
       have q179 : x9_1 < (l1.length : Int) := of_decide_eq_true (by assumption)
       obtain ⟨ad179, e179, hx179_0⟩ := Kd.at_int HR1.out x9_1 p179 q179
       cases e179
       replace p179 := eq_true p179
       replace q179 := eq_true q179
       go_wp2
       go_roundg k1
       case measure => have := HK1.out; omega
       case rel => exact ⟨(wrap64 (x9_1 + 1)), eq_, H', ⟨by have := HK1.out; omega⟩, dw_⟩
     ·rw [if_neg c5] at H
      exact absurd H (by simp)
    ·rw [if_neg c4] at H
     exact absurd H (by simp)
   ·rw [if_neg c3] at H
    have c3b0 := decide_eq_false c3
    clear c3
    obtain rfl := Option.some.inj H
    go_wp2
    go_ret
    exact ⟨eq_, dw_⟩
noncomputable def epicycleref06_Root.j0 : Nat → Int → Int → Int → Bool → Option (Int)
 | 0, _, _, _, _ => none
 | k + 1, x0, x1, x2, x16 => if x16 = true then (some 0) else (if (IntKind.u64.wrap (x2)) = 0 then (none) else ((epicycleref02_Pow.f k x1 (IntKind.u64.wrap (Int.tdiv (IntKind.u64.wrap (x0 - 1)) (IntKind.u64.wrap (x2)))) x0).bind fun t180 => (some t180)))
noncomputable def epicycleref06_Root.f (k : Nat) (a0 : Int) (a1 : Int) (a2 : Int) : Option (Int) := if a2 < 1 then (epicycleref06_Root.j0 k a0 a1 a2 true) else (if (IntKind.u64.wrap (a2)) = 0 then (none) else (epicycleref06_Root.j0 k a0 a1 a2 ((Int.tmod (IntKind.u64.wrap (a0 - 1)) (IntKind.u64.wrap (a2))) != 0)))
set_option maxHeartbeats 8000000 in
set_option maxRecDepth 100000 in
theorem epicycleref06_Root.calls (k : Nat) (a0 : Int) (a1 : Int) (a2 : Int) (r : Int) (w : World) (h : epicycleref06_Root.f k a0 a1 a2 = some r) :
  Calls Tryz.prog 97 #[.int .u64 a0, .int .u64 a1, .int .i64 a2] w fun e w' => e = .returned (.int .u64 r) ∧ Drawn0 w w' := by
 have H := h; unfold epicycleref06_Root.f at H
 clear h
 have HC4 := Aside0.mk H
 clear H
 go_enter Tryz.func97, Tryz.ntmps97
 go_upto_region 1 with (fail)
 go_cut [16] (fun v16 wc => ∃ (kq : Nat) (x16_3 : Bool), v16 = .bool x16_3 ∧ Aside0 (epicycleref06_Root.j0 kq a0 a1 a2 x16_3 = some r) ∧ Aside0 (kq ≤ k) ∧ Drawn0 w wc)
 case first =>
  have H := HC4.out
  clear HC4
  by_cases c5 : a2 < 1
  ·rw [if_pos c5] at H
   have c5b0 := decide_eq_true c5
   clear c5
   (first | rw [c5b0] | (simp only [i64_w, i32_w]; rw [c5b0]) | skip)
   have H' := Aside0.mk H
   clear H
   go_wp2
   go_meet
   case rel => exact ⟨_, (true), eq_, H', ⟨by first | omega | exact Nat.le_refl _⟩, dw_⟩
  ·rw [if_neg c5] at H
   have c5b0 := decide_eq_false c5
   clear c5
   (first | rw [c5b0] | (simp only [i64_w, i32_w]; rw [c5b0]) | skip)
   by_cases c6 : (IntKind.u64.wrap (a2)) = 0
   ·rw [if_pos c6] at H
    exact absurd H (by simp)
   ·rw [if_neg c6] at H
    have c6b0 := beq_eq_false_iff_ne.mpr c6
    have c6b1 := bne_iff_ne.mpr c6
    have H' := Aside0.mk H
    clear H
    go_wp2
    go_meet
    case rel => exact ⟨_, (((Int.tmod (IntKind.u64.wrap (a0 - 1)) (IntKind.u64.wrap (a2))) != 0)), eq_, H', ⟨by first | omega | exact Nat.le_refl _⟩, dw_⟩
 case rest =>
  clear HC4
  obtain ⟨kq, x16_3, rfl, HA, HJ3, ⟨mc3, rfl⟩⟩ := hcut
  cases kq with
  | zero => exact absurd HA.out (by simp [epicycleref06_Root.j0])
  | succ kj3 =>
   have H := HA.out
   clear HA
   simp only [epicycleref06_Root.j0] at H
   by_cases c7 : x16_3 = true
   ·subst c7
    have H1 := H; rw [if_pos rfl] at H1
    clear H
    have H := H1
    clear H1
    obtain rfl := Option.some.inj H
    go_wp2
    go_ret
    exact ⟨eq_, dw_⟩
   ·replace c7 := Bool.eq_false_iff.mpr c7
    subst c7
    have H1 := H; rw [if_neg (show ¬ (false = true) by decide)] at H1
    clear H
    have H := H1
    clear H1
    by_cases c8 : (IntKind.u64.wrap (a2)) = 0
    ·rw [if_pos c8] at H
     exact absurd H (by simp)
    ·rw [if_neg c8] at H
     have c8b0 := beq_eq_false_iff_ne.mpr c8
     have c8b1 := bne_iff_ne.mpr c8
     replace H := Option.bind_eq_some_iff.mp H
     obtain ⟨t180, A90, H⟩ := H
     (try dsimp only at H)
     have A9 := Aside0.mk A90
     clear A90
     obtain rfl := Option.some.inj H
     go_wp2_with (first | (refine gl_ 24 Tryz.func30 #[.int .u64 a1, .int .u64 (IntKind.u64.wrap (Int.tdiv (IntKind.u64.wrap (a0 - 1)) (IntKind.u64.wrap (a2)))), .int .u64 a0] rfl ?_; (with_reducible refine (epicycleref02_Pow.calls kj3 a1 (IntKind.u64.wrap (Int.tdiv (IntKind.u64.wrap (a0 - 1)) (IntKind.u64.wrap (a2)))) a0 t180 _ A9.out).mono ?_); rintro e w' ⟨rfl, ⟨nd, rfl⟩⟩; refine ⟨_, rfl, ?_⟩))
     go_ret
     exact ⟨eq_, dw_⟩
noncomputable def epicycleref10_Root.f (k : Nat) (a0 : Int) (a1 : Int) (a2 : Int) (a3 : Bool) : Option (Int × Int) := if a2 < 1 then (some (0, 1)) else (if a2 > 4096 then (some (0, 13)) else (if (IntKind.u64.wrap (a2)) = 0 then (none) else (if (Int.tmod (IntKind.u64.wrap (a0 - 1)) (IntKind.u64.wrap (a2))) = 0 then ((epicycleref06_Root.f k a0 a1 a2).bind fun t181 => (if a3 = true then ((epicycleref02_Pow.f k t181 (IntKind.u64.wrap (wrap64 (a2 - 1))) a0).bind fun t182 => (some (t182, 0))) else (some (t181, 0)))) else (some (0, 4)))))
set_option maxHeartbeats 8000000 in
set_option maxRecDepth 100000 in
theorem epicycleref10_Root.calls (k : Nat) (a0 : Int) (a1 : Int) (a2 : Int) (a3 : Bool) (r1 : Int) (r2 : Int) (w : World) (h : epicycleref10_Root.f k a0 a1 a2 a3 = some (r1, r2)) :
  Calls Tryz.prog 54 #[.int .u64 a0, .int .u64 a1, .int .i64 a2, .bool a3] w fun e w' => e = .returned (.tuple #[.int .u64 r1, .int .i64 r2]) ∧ Drawn0 w w' := by
 have H := h; unfold epicycleref10_Root.f at H
 clear h
 by_cases c5 : a2 < 1
 ·rw [if_pos c5] at H
  have c5b0 := decide_eq_true c5
  clear c5
  simp only [Option.some.injEq, Prod.mk.injEq] at H
  obtain ⟨rfl, rfl⟩ := H
  go_enter Tryz.func54, Tryz.ntmps54
  go_wp2
  go_ret2
  exact ⟨eq_, dw_⟩
 ·rw [if_neg c5] at H
  have c5b0 := decide_eq_false c5
  clear c5
  by_cases c6 : a2 > 4096
  ·rw [if_pos c6] at H
   have c6b0 := decide_eq_true c6
   clear c6
   simp only [Option.some.injEq, Prod.mk.injEq] at H
   obtain ⟨rfl, rfl⟩ := H
   go_enter Tryz.func54, Tryz.ntmps54
   go_wp2
   go_ret2
   exact ⟨eq_, dw_⟩
  ·rw [if_neg c6] at H
   have c6b0 := decide_eq_false c6
   clear c6
   by_cases c7 : (IntKind.u64.wrap (a2)) = 0
   ·rw [if_pos c7] at H
    exact absurd H (by simp)
   ·rw [if_neg c7] at H
    have c7b0 := beq_eq_false_iff_ne.mpr c7
    have c7b1 := bne_iff_ne.mpr c7
    by_cases c8 : (Int.tmod (IntKind.u64.wrap (a0 - 1)) (IntKind.u64.wrap (a2))) = 0
    ·rw [if_pos c8] at H
     have c8b0 := beq_iff_eq.mpr c8
     have c8b1 := bne_eq_false_iff_eq.mpr c8
     clear c8
     replace H := Option.bind_eq_some_iff.mp H
     obtain ⟨t181, A90, H⟩ := H
     (try dsimp only at H)
     have A9 := Aside0.mk A90
     clear A90
     by_cases c10 : a3 = true
     ·subst c10
      have H1 := H; rw [if_pos rfl] at H1
      clear H
      have H := H1
      clear H1
      replace H := Option.bind_eq_some_iff.mp H
      obtain ⟨t182, A110, H⟩ := H
      (try dsimp only at H)
      have A11 := Aside0.mk A110
      clear A110
      simp only [Option.some.injEq, Prod.mk.injEq] at H
      obtain ⟨rfl, rfl⟩ := H
      go_enter Tryz.func54, Tryz.ntmps54
      go_wp2_with (first | (refine gl_ 24 Tryz.func97 #[.int .u64 a0, .int .u64 a1, .int .i64 a2] rfl ?_; (with_reducible refine (epicycleref06_Root.calls k a0 a1 a2 t181 _ A9.out).mono ?_); rintro e w' ⟨rfl, ⟨nd, rfl⟩⟩; refine ⟨_, rfl, ?_⟩) | (refine gl_ 31 Tryz.func30 #[.int .u64 t181, .int .u64 (IntKind.u64.wrap (wrap64 (a2 - 1))), .int .u64 a0] rfl ?_; (with_reducible refine (epicycleref02_Pow.calls k t181 (IntKind.u64.wrap (wrap64 (a2 - 1))) a0 t182 _ A11.out).mono ?_); rintro e w' ⟨rfl, ⟨nd, rfl⟩⟩; refine ⟨_, rfl, ?_⟩))
      go_ret2
      exact ⟨eq_, dw_⟩
     ·replace c10 := Bool.eq_false_iff.mpr c10
      subst c10
      have H1 := H; rw [if_neg (show ¬ (false = true) by decide)] at H1
      clear H
      have H := H1
      clear H1
      simp only [Option.some.injEq, Prod.mk.injEq] at H
      obtain ⟨rfl, rfl⟩ := H
      go_enter Tryz.func54, Tryz.ntmps54
      go_wp2_with (first | (refine gl_ 24 Tryz.func97 #[.int .u64 a0, .int .u64 a1, .int .i64 a2] rfl ?_; (with_reducible refine (epicycleref06_Root.calls k a0 a1 a2 t181 _ A9.out).mono ?_); rintro e w' ⟨rfl, ⟨nd, rfl⟩⟩; refine ⟨_, rfl, ?_⟩))
      go_ret2
      exact ⟨eq_, dw_⟩
    ·rw [if_neg c8] at H
     have c8b0 := beq_eq_false_iff_ne.mpr c8
     have c8b1 := bne_iff_ne.mpr c8
     simp only [Option.some.injEq, Prod.mk.injEq] at H
     obtain ⟨rfl, rfl⟩ := H
     go_enter Tryz.func54, Tryz.ntmps54
     go_wp2
     go_ret2
     exact ⟨eq_, dw_⟩
end Go.Proofs.YtndkmnjbjlfeaaaGreat.XG
end
section
namespace Go.Proofs.YtndkmnjbjlfeaaaGreat.XG
open Go.RowKit Go.Proofs.YtndkmnjbjlfeaaaGreat.Given Go.Proofs.YtndkmnjbjlfeaaaGreat.Row05 Go.Proofs.YtndkmnjbjlfeaaaGreat.XS Go.Proofs.YtndkmnjbjlfeaaaGreat.XT Go.Proofs.YtndkmnjbjlfeaaaGreat.XR Go.Proofs.YtndkmnjbjlfeaaaGreat.F06 Go.Proofs.YtndkmnjbjlfeaaaGreat.XK Go.Proofs.YtndkmnjbjlfeaaaGreat.XW Go.Proofs.YtndkmnjbjlfeaaaGreatW.PrintWords Go.Proofs.YtndkmnjbjlfeaaaGreatW.PrintLast Go.Proofs.YtndkmnjbjlfeaaaGreatW.PrintMore
attribute [local go_sem] max2_int min2_int max_two min_two max_three min_three max_four min_four
set_option linter.unusedVariables false
set_option linter.unusedSimpArgs false
noncomputable def epicycleref10_Table.l0 : Nat → Int → Int → Int → List Int → Int → Int → Option (List Int)
 | 0, _, _, _, _, _, _ => none
 | k + 1, x0, x1, x2, x7, x8, x9 => if x9 < x2 then (if x7.length < 17592186044416 then ((epicycleref02_Mul.f k x8 x1 x0).bind fun t186 => (epicycleref10_Table.l0 k x0 x1 x2 (x7 ++ [x8]) t186 (wrap64 (x9 + 1)))) else (none)) else (some x7)
noncomputable def epicycleref10_Table.f (k : Nat) (a0 : Int) (a1 : Int) (a2 : Int) : Option (List Int) := epicycleref10_Table.l0 k a0 a1 a2 ([] : List Int) 1 0
set_option maxHeartbeats 8000000 in
set_option maxRecDepth 100000 in
theorem epicycleref10_Table.calls (k : Nat) (a0 : Int) (a1 : Int) (a2 : Int) (r : List Int) (w : World) (h : epicycleref10_Table.f k a0 a1 a2 = some r) :
  Calls Tryz.prog 55 #[.int .u64 a0, .int .u64 a1, .int .i64 a2] w fun e w' => ∃ v0_ : Value, e = .returned (v0_) ∧ Kd.R (Kd.int .u64) 22 w' w.heap.size (fun _ => True) v0_ r ∧ Below w.heap.size w w' := by
 have HB := Aside0.mk (Below.refl w.heap.size w)
 have H := h; unfold epicycleref10_Table.f at H
 clear h
 have H' := Aside0.mk H
 clear H
 go_enter Tryz.func55, Tryz.ntmps55
 go_wp2
 go_loopg [7, 8, 9] k (fun kq v7 v8 v9 w' => ∃ (x7_1 : List Int) (x8_1 : Int) (x9_1 : Int), v8 = .int .u64 x8_1 ∧ v9 = .int .i64 x9_1 ∧ Aside0 (epicycleref10_Table.l0 kq a0 a1 a2 x7_1 x8_1 x9_1 = some r) ∧ Aside0 (kq ≤ k) ∧ Aside0 (Kd.R (Kd.int .u64) 22 w' w.heap.size (fun _ => True) v7 x7_1) ∧ Aside0 (Below w.heap.size w w'))
 case atStart => exact ⟨(([] : List Int)), (1), (0), eq_, eq_, H', ⟨Nat.le_refl _⟩, ⟨nl_⟩, ⟨bel_⟩⟩
 case round =>
  clear H'
  obtain ⟨x7_1, x8_1, x9_1, rfl, rfl, HA, HK1, HO_7, HB⟩ := hrel
  cases gk with
  | zero => exact absurd HA.out (by simp [epicycleref10_Table.l0])
  | succ k1 =>
   have H := HA.out
   clear HA
   simp only [epicycleref10_Table.l0] at H
   by_cases c4 : x9_1 < a2
   ·rw [if_pos c4] at H
    have c4b0 := decide_eq_true c4
    clear c4
    by_cases c5 : x7_1.length < 17592186044416
    ·rw [if_pos c5] at H
     have LMc5 := Aside0.mk c5
     clear c5
     obtain ⟨y183, hy183⟩ : ∃ y_ : List Int, y_ = (x7_1 ++ [x8_1]) := ⟨_, rfl⟩
     replace H : ((epicycleref02_Mul.f k1 x8_1 a1 a0).bind fun t186 => (epicycleref10_Table.l0 k1 a0 a1 a2 y183 t186 (wrap64 (x9_1 + 1)))) = some r := by first | (rw [hy183]; with_reducible exact H) | (have H2_ := (Option.bind_some _ _).symm.trans H; rw [hy183]; with_reducible exact H2_) | (have H2_ := (Option.bind_some _ _).symm.trans H; with_reducible exact H2_) | with_reducible exact H | (rw [hy183]; exact H) | exact H
     have Ny183 := Aside0.mk hy183
     clear hy183
     replace H := Option.bind_eq_some_iff.mp H
     obtain ⟨t186, A60, H⟩ := H
     (try dsimp only at H)
     have A6 := Aside0.mk A60
     clear A60
     have H' := Aside0.mk H
     clear H
     go_wp2_with (first | ((with_reducible refine gate_builtin (b := .append) (xs := #[.tmp 15, .tmp 17]) rfl ?_); at_builtin; refine Kd.R_append (Kd.int .u64) (w0 := w) w.heap.size rfl (.tmp 15) (.tmp 17) 26 22 (.int .u64 0) 8 rfl Tryz.underlying26 info22 rfl (by decide) (by omega) u7 x7_1 x8_1 [.int .u64 x8_1] (fun _ => True) (fun _ => False) rfl rfl ?aP (fun _ hk => hk.elim) ?aF ?aO ?aB ?aS ?aL ?_; (case aP => exact rfl); (case aB => exact bel_); (case aF => exact (fun _ _ => trivial)); (case aO => exact (rel_ HO_7.out)); (case aS => exact (below_size bel_)); (case aL => have := LMc5.out; omega); intro v184 w7 ho hb hg hat; rw [← Ny183.out] at ho; have n0_ := Aside0.mk (hb); have n1_ := Aside0.mk (ho); clear HB; clear HO_7; have HB := n0_; have HO185 := n1_; clear n0_ n1_; clear ho hb hg hat) | (refine gl_ 22 Tryz.func26 #[.int .u64 x8_1, .int .u64 a1, .int .u64 a0] rfl ?_; (with_reducible refine (epicycleref02_Mul.calls k1 x8_1 a1 a0 t186 _ A6.out).mono ?_); rintro e w' ⟨rfl, ⟨nd, rfl⟩⟩; refine ⟨_, rfl, ?_⟩))
     go_roundg k1
     case measure => have := HK1.out; omega
     case rel => exact ⟨(y183), (t186), (wrap64 (x9_1 + 1)), eq_, eq_, H', ⟨by have := HK1.out; omega⟩, ⟨rel_ HO185.out⟩, ⟨bel_⟩⟩
    ·rw [if_neg c5] at H
     exact absurd H (by simp)
   ·rw [if_neg c4] at H
    have c4b0 := decide_eq_false c4
    clear c4
    obtain rfl := Option.some.inj H
    go_wp2
    go_ret
    exact ⟨_, eq_, rel_ HO_7.out, bel_⟩
noncomputable def epicycleref11_Sum.l0 : Nat → Int → List Int → List Int → Int → Int → List Int → Int → Int → Option (Int)
 | 0, _, _, _, _, _, _, _, _ => none
 | k + 1, x0, x1, x2, x3, x9, x12, x13, x14 => if x14 < x13 then (if 0 ≤ x14 then (if x14 < (x12.length : Int) then (if (x2.length : Int) = 0 then (none) else (if 0 ≤ (Int.tmod (wrap64 (x3 * x14)) (x2.length : Int)) then (if (Int.tmod (wrap64 (x3 * x14)) (x2.length : Int)) < (x1.length : Int) then ((epicycleref02_Mul.f k (rd x12 x14) (rd x1 (Int.tmod (wrap64 (x3 * x14)) (x2.length : Int))) x0).bind fun t189 => ((epicycleref02_Add.f x9 t189 x0).bind fun t190 => (epicycleref11_Sum.l0 k x0 x1 x2 x3 t190 x12 x13 (wrap64 (x14 + 1))))) else (none)) else (none))) else (none)) else (none)) else (some x9)
noncomputable def epicycleref11_Sum.f (k : Nat) (a0 : Int) (l1 : List Int) (l2 : List Int) (a3 : Int) : Option (Int) := epicycleref11_Sum.l0 k a0 l1 l2 a3 0 l2 (l2.length : Int) 0
set_option maxHeartbeats 8000000 in
set_option maxRecDepth 100000 in
theorem epicycleref11_Sum.calls (k : Nat) (a0 : Int) (A1 : Option Addr) (c1 : Nat) (l1 : List Int) (A2 : Option Addr) (c2 : Nat) (l2 : List Int) (a3 : Int) (r : Int) (w : World) (hr1 : Kd.C (Kd.int .u64) w A1 l1.length l1) (hc1 : l1.length ≤ c1) (hr2 : Kd.C (Kd.int .u64) w A2 l2.length l2) (hc2 : l2.length ≤ c2) (h : epicycleref11_Sum.f k a0 l1 l2 a3 = some r) :
  Calls Tryz.prog 56 #[.int .u64 a0, .slice A1 l1.length c1, .slice A2 l2.length c2, .int .i64 a3] w fun e w' => e = .returned (.int .u64 r) ∧ Drawn0 w w' := by
 have HR1 := Aside0.mk hr1
 have HC1 := Aside0.mk hc1
 clear hr1 hc1
 have HR2 := Aside0.mk hr2
 have HC2 := Aside0.mk hc2
 clear hr2 hc2
 have H := h; unfold epicycleref11_Sum.f at H
 clear h
 have H' := Aside0.mk H
 clear H
 go_enter Tryz.func56, Tryz.ntmps56
 go_wp2
 go_loopg [9, 14] k (fun kq v9 v14 w' => ∃ (x9_1 : Int) (x14_1 : Int), v9 = .int .u64 x9_1 ∧ v14 = .int .i64 x14_1 ∧ Aside0 (epicycleref11_Sum.l0 kq a0 l1 l2 a3 x9_1 l2 (l2.length : Int) x14_1 = some r) ∧ Aside0 (kq ≤ k) ∧ Drawn0 w w')
 case atStart => exact ⟨(0), (0), eq_, eq_, H', ⟨Nat.le_refl _⟩, dw_⟩
 case round =>
  clear H'
  obtain ⟨x9_1, x14_1, rfl, rfl, HA, HK1, ⟨m1, rfl⟩⟩ := hrel
  cases gk with
  | zero => exact absurd HA.out (by simp [epicycleref11_Sum.l0])
  | succ k1 =>
   have H := HA.out
   clear HA
   simp only [epicycleref11_Sum.l0] at H
   by_cases c5 : x14_1 < (l2.length : Int)
   ·rw [if_pos c5] at H
    have c5b0 := decide_eq_true c5
    clear c5
    by_cases c6 : 0 ≤ x14_1
    ·rw [if_pos c6] at H
     have c6b0 := decide_eq_true c6
     clear c6
     by_cases c7 : x14_1 < (l2.length : Int)
     ·rw [if_pos c7] at H
      have c7b0 := decide_eq_true c7
      clear c7
      by_cases c8 : (l2.length : Int) = 0
      ·rw [if_pos c8] at H
       exact absurd H (by simp)
      ·rw [if_neg c8] at H
       have c8b0 := beq_eq_false_iff_ne.mpr c8
       have c8b1 := bne_iff_ne.mpr c8
       have c8b2 : ¬ (l2 = []) := fun h_ => c8 (by rw [h_]; rfl)
       obtain ⟨ji9, hji9⟩ : ∃ j_ : Int, (Int.tmod (wrap64 (a3 * x14_1)) (l2.length : Int)) = j_ := ⟨_, rfl⟩
       (first | rw [hji9] at H | simp only [hji9] at H)
       have hji9v : (Int.tmod (IntKind.i64.wrap (a3 * x14_1)) (l2.length : Int)) = ji9 := by simp only [i64_w]; exact hji9
       by_cases c10 : 0 ≤ (ji9)
       ·rw [if_pos c10] at H
        have c10b0 := decide_eq_true c10
        clear c10
        by_cases c11 : (ji9) < (l1.length : Int)
        ·rw [if_pos c11] at H
         have c11b0 := decide_eq_true c11
         clear c11
         replace H := Option.bind_eq_some_iff.mp H
         obtain ⟨t189, A120, H⟩ := H
         (try dsimp only at H)
         have A12 := Aside0.mk A120
         clear A120
         replace H := Option.bind_eq_some_iff.mp H
         obtain ⟨t190, A130, H⟩ := H
         (try dsimp only at H)
         have A13 := Aside0.mk A130
         clear A130
         have H' := Aside0.mk H
         clear H
         have p187 : 0 ≤ (x14_1 : Int) := of_decide_eq_true (by assumption)
         have q187 : x14_1 < (l2.length : Int) := of_decide_eq_true (by assumption)
         obtain ⟨ad187, e187, hx187_0⟩ := Kd.at_int HR2.out x14_1 p187 q187
         cases e187
         replace p187 := eq_true p187
         replace q187 := eq_true q187
         have p188 : 0 ≤ ((ji9) : Int) := of_decide_eq_true (by assumption)
         have q188 : (ji9) < (l1.length : Int) := of_decide_eq_true (by assumption)
         obtain ⟨ad188, e188, hx188_0⟩ := Kd.at_int HR1.out (ji9) p188 q188
         cases e188
         replace p188 := eq_true p188
         replace q188 := eq_true q188
         go_wp2_with (first | ((with_reducible refine gate_callee (f := 26) rfl ?_); refine goesL_ (some 31) rfl rfl Tryz.func26 (by kernel_rfl) rfl #[.int .u64 (rd l2 x14_1), .int .u64 (rd l1 (ji9)), .int .u64 a0] rfl (by (try simp only [List.map_toArray, List.map_cons, List.map_nil]); first | done | (simp only [hji9]; rfl) | rfl | (simp only [List.length_drop, List.length_take]; rfl)) ?_; (with_reducible refine (epicycleref02_Mul.calls k1 (rd l2 x14_1) (rd l1 (ji9)) a0 t189 _ A12.out).mono ?_); rintro e w' ⟨rfl, ⟨nd, rfl⟩⟩; refine ⟨_, rfl, ?_⟩) | (refine gl_ 33 Tryz.func28 #[.int .u64 x9_1, .int .u64 t189, .int .u64 a0] rfl ?_; (with_reducible refine (epicycleref02_Add.calls x9_1 t189 a0 t190 _ A13.out).mono ?_); rintro e w' ⟨rfl, ⟨nd, rfl⟩⟩; refine ⟨_, rfl, ?_⟩))
         go_roundg k1
         case measure => have := HK1.out; omega
         case rel => exact ⟨(t190), (wrap64 (x14_1 + 1)), eq_, eq_, H', ⟨by have := HK1.out; omega⟩, dw_⟩
        ·rw [if_neg c11] at H
         exact absurd H (by simp)
       ·rw [if_neg c10] at H
        exact absurd H (by simp)
     ·rw [if_neg c7] at H
      exact absurd H (by simp)
    ·rw [if_neg c6] at H
     exact absurd H (by simp)
   ·rw [if_neg c5] at H
    have c5b0 := decide_eq_false c5
    clear c5
    obtain rfl := Option.some.inj H
    go_wp2
    go_ret
    exact ⟨eq_, dw_⟩
noncomputable def epicycleref06_Inv.f (k : Nat) (a0 : Int) (a1 : Int) : Option (Int) := (epicycleref02_Pow.f k a0 (IntKind.u64.wrap (a1 - 2)) a1).bind fun t191 => (some t191)
set_option maxHeartbeats 8000000 in
set_option maxRecDepth 100000 in
theorem epicycleref06_Inv.calls (k : Nat) (a0 : Int) (a1 : Int) (r : Int) (w : World) (h : epicycleref06_Inv.f k a0 a1 = some r) :
  Calls Tryz.prog 57 #[.int .u64 a0, .int .u64 a1] w fun e w' => e = .returned (.int .u64 r) ∧ Drawn0 w w' := by
 have H := h; unfold epicycleref06_Inv.f at H
 clear h
 replace H := Option.bind_eq_some_iff.mp H
 obtain ⟨t191, A30, H⟩ := H
 (try dsimp only at H)
 have A3 := Aside0.mk A30
 clear A30
 obtain rfl := Option.some.inj H
 go_enter Tryz.func57, Tryz.ntmps57
 go_wp2_with (first | (refine gl_ 9 Tryz.func30 #[.int .u64 a0, .int .u64 (IntKind.u64.wrap (a1 - 2)), .int .u64 a1] rfl ?_; (with_reducible refine (epicycleref02_Pow.calls k a0 (IntKind.u64.wrap (a1 - 2)) a1 t191 _ A3.out).mono ?_); rintro e w' ⟨rfl, ⟨nd, rfl⟩⟩; refine ⟨_, rfl, ?_⟩))
 go_ret
 exact ⟨eq_, dw_⟩
noncomputable def epicycleref11_Run.l0 : Nat → Int → List Int → Bool → List Int → List Int → Int → Int → Option (List Int)
 | 0, _, _, _, _, _, _, _ => none
 | k + 1, x0, x2, x3, x11, x12, x30, x31 => if x31 < x30 then ((epicycleref11_Sum.f k x0 x11 x2 x31).bind fun t197 => (if x3 = true then ((epicycleref06_Inv.f k (IntKind.u64.wrap ((x2.length : Int))) x0).bind fun t198 => ((epicycleref02_Mul.f k t197 t198 x0).bind fun t199 => (if x12.length < 17592186044416 then (epicycleref11_Run.l0 k x0 x2 x3 x11 (x12 ++ [t199]) x30 (wrap64 (x31 + 1))) else (none)))) else (if x12.length < 17592186044416 then (epicycleref11_Run.l0 k x0 x2 x3 x11 (x12 ++ [t197]) x30 (wrap64 (x31 + 1))) else (none)))) else (some x12)
noncomputable def epicycleref11_Run.f (k : Nat) (a0 : Int) (a1 : Int) (l2 : List Int) (a3 : Bool) : Option (List Int) := (epicycleref10_Root.f k a0 a1 (l2.length : Int) a3).bind fun bt192 => ((epicycleref10_Table.f k a0 bt192.1 (l2.length : Int)).bind fun t194 => (epicycleref11_Run.l0 k a0 l2 a3 t194 ([] : List Int) (l2.length : Int) 0))
set_option maxHeartbeats 8000000 in
set_option maxRecDepth 100000 in
theorem epicycleref11_Run.calls (k : Nat) (a0 : Int) (a1 : Int) (A2 : Option Addr) (c2 : Nat) (l2 : List Int) (a3 : Bool) (r : List Int) (w : World) (hr2 : Kd.C (Kd.int .u64) w A2 l2.length l2) (hc2 : l2.length ≤ c2) (h : epicycleref11_Run.f k a0 a1 l2 a3 = some r) :
  Calls Tryz.prog 22 #[.int .u64 a0, .int .u64 a1, .slice A2 l2.length c2, .bool a3] w fun e w' => ∃ v0_ : Value, e = .returned (v0_) ∧ Kd.R (Kd.int .u64) 22 w' w.heap.size (fun _ => True) v0_ r ∧ Below w.heap.size w w' := by
 have HR2 := Aside0.mk hr2
 have HC2 := Aside0.mk hc2
 clear hr2 hc2
 have HB := Aside0.mk (Below.refl w.heap.size w)
 have H := h; unfold epicycleref11_Run.f at H
 clear h
 replace H := Option.bind_eq_some_iff.mp H
 obtain ⟨⟨t192, t193⟩, A50, H⟩ := H
 (try dsimp only at H)
 have A5 := Aside0.mk A50
 clear A50
 replace H := Option.bind_eq_some_iff.mp H
 obtain ⟨t194, A60, H⟩ := H
 (try dsimp only at H)
 have A6 := Aside0.mk A60
 clear A60
 have H' := Aside0.mk H
 clear H
 go_enter Tryz.func22, Tryz.ntmps22
 go_wp2_with (first | (refine gl_ 21 Tryz.func54 #[.int .u64 a0, .int .u64 a1, .int .i64 (l2.length : Int), .bool a3] rfl ?_; (with_reducible refine (epicycleref10_Root.calls k a0 a1 (l2.length : Int) a3 t192 t193 _ A5.out).mono ?_); rintro e w' ⟨rfl, ⟨nd, rfl⟩⟩; refine ⟨_, rfl, ?_⟩) | (refine gl_ 28 Tryz.func55 #[.int .u64 a0, .int .u64 t192, .int .i64 (l2.length : Int)] rfl ?_; (with_reducible refine (epicycleref10_Table.calls k a0 t192 (l2.length : Int) t194 _ A6.out).mono ?_); rintro e w7 ⟨v195, rfl, ho0, hb⟩; refine ⟨_, rfl, ?_⟩; have n0_ := Aside0.mk (Kd.R_lower ho0 (below_size bel_)); have n1_ := Aside0.mk (below_step bel_ hb); clear HB; have HO196 := n0_; have HB := n1_; clear n0_ n1_; (try clear ho0)))
 go_loopg [12, 31] k (fun kq v12 v31 w' => ∃ (x12_1 : List Int) (x31_1 : Int), v31 = .int .i64 x31_1 ∧ Aside0 (epicycleref11_Run.l0 kq a0 l2 a3 t194 x12_1 (l2.length : Int) x31_1 = some r) ∧ Aside0 (kq ≤ k) ∧ Aside0 (Kd.R (Kd.int .u64) 22 w' w.heap.size (fun k_ => some k_ ≠ (v12 : Value).ownBlock) v195 t194) ∧ Aside0 (Kd.R (Kd.int .u64) 22 w' w.heap.size (fun k_ => some k_ ≠ (v195 : Value).ownBlock) v12 x12_1) ∧ Aside0 (Below w.heap.size w w'))
 case atStart => exact ⟨(([] : List Int)), (0), eq_, H', ⟨Nat.le_refl _⟩, ⟨by (with_reducible repeat (first | apply Kd.R_alloc | apply Kd.R_drewN | apply Kd.R_drew)); exact Kd.R_mono HO196.out (fun _ hk => (by simp [Value.ownBlock]))⟩, ⟨nl_⟩, ⟨bel_⟩⟩
 case round =>
  clear H'
  obtain ⟨x12_1, x31_1, rfl, HA, HK1, HO_11, HO_12, HB⟩ := hrel
  cases gk with
  | zero => exact absurd HA.out (by simp [epicycleref11_Run.l0])
  | succ k1 =>
   have H := HA.out
   clear HA
   simp only [epicycleref11_Run.l0] at H
   by_cases c8 : x31_1 < (l2.length : Int)
   ·rw [if_pos c8] at H
    have c8b0 := decide_eq_true c8
    clear c8
    replace H := Option.bind_eq_some_iff.mp H
    obtain ⟨t197, A90, H⟩ := H
    (try dsimp only at H)
    have A9 := Aside0.mk A90
    clear A90
    by_cases c10 : a3 = true
    ·subst c10
     have H1 := H; rw [if_pos rfl] at H1
     clear H
     have H := H1
     clear H1
     replace H := Option.bind_eq_some_iff.mp H
     obtain ⟨t198, A110, H⟩ := H
     (try dsimp only at H)
     have A11 := Aside0.mk A110
     clear A110
     replace H := Option.bind_eq_some_iff.mp H
     obtain ⟨t199, A120, H⟩ := H
     (try dsimp only at H)
     have A12 := Aside0.mk A120
     clear A120
     by_cases c13 : x12_1.length < 17592186044416
     ·rw [if_pos c13] at H
      have LMc13 := Aside0.mk c13
      clear c13
      obtain ⟨y200, hy200⟩ : ∃ y_ : List Int, y_ = (x12_1 ++ [t199]) := ⟨_, rfl⟩
      replace H : (epicycleref11_Run.l0 k1 a0 l2 true t194 y200 (l2.length : Int) (wrap64 (x31_1 + 1))) = some r := by first | (rw [hy200]; with_reducible exact H) | (have H2_ := (Option.bind_some _ _).symm.trans H; rw [hy200]; with_reducible exact H2_) | (have H2_ := (Option.bind_some _ _).symm.trans H; with_reducible exact H2_) | with_reducible exact H | (rw [hy200]; exact H) | exact H
      have Ny200 := Aside0.mk hy200
      clear hy200
      have H' := Aside0.mk H
      clear H
      obtain ⟨Ao14, co14, eo14⟩ := Kd.R_slice HO_11.out
      subst eo14
      go_wp2_with (first | (refine gl_ 38 Tryz.func56 #[.int .u64 a0, .slice Ao14 t194.length co14, .slice A2 l2.length c2, .int .i64 x31_1] rfl ?_; (with_reducible refine (epicycleref11_Sum.calls k1 a0 _ _ t194 _ _ l2 x31_1 t197 _ ?side1 ?side2 ?side3 ?side4 A9.out).mono ?_); (case side1 => repeat (first | exact (Kd.R_reads' HO_11.out).2.2 | (with_reducible refine Kd.C_alloc ?_ _) | (with_reducible refine Kd.C_drewN ?_ _) | (with_reducible refine Kd.C_drew ?_))); (case side2 => exact (Kd.R_reads' HO_11.out).2.1); (case side3 => exact cal_ (Kd.C_below HR2.out HB.out)); (case side4 => exact HC2.out); rintro e w' ⟨rfl, ⟨nd, rfl⟩⟩; refine ⟨_, rfl, ?_⟩) | (refine gl_ 45 Tryz.func57 #[.int .u64 (IntKind.u64.wrap ((l2.length : Int))), .int .u64 a0] rfl ?_; (with_reducible refine (epicycleref06_Inv.calls k1 (IntKind.u64.wrap ((l2.length : Int))) a0 t198 _ A11.out).mono ?_); rintro e w' ⟨rfl, ⟨nd, rfl⟩⟩; refine ⟨_, rfl, ?_⟩) | (refine gl_ 47 Tryz.func26 #[.int .u64 t197, .int .u64 t198, .int .u64 a0] rfl ?_; (with_reducible refine (epicycleref02_Mul.calls k1 t197 t198 a0 t199 _ A12.out).mono ?_); rintro e w' ⟨rfl, ⟨nd, rfl⟩⟩; refine ⟨_, rfl, ?_⟩) | ((with_reducible refine gate_builtin (b := .append) (xs := #[.tmp 48, .tmp 50]) rfl ?_); at_builtin; refine Kd.R_append (Kd.int .u64) (w0 := w) w.heap.size rfl (.tmp 48) (.tmp 50) 26 22 (.int .u64 0) 8 rfl Tryz.underlying26 info22 rfl (by decide) (by omega) u12 x12_1 t199 [.int .u64 t199] (fun k_ => some k_ ≠ (.slice Ao14 t194.length co14 : Value).ownBlock) (fun _ => False) rfl rfl ?aP (fun _ hk => hk.elim) ?aF ?aO ?aB ?aS ?aL ?_; (case aP => exact rfl); (case aB => exact bel_); (case aF => exact (fun k_ hk => Kd.fresh' (Kd.R_lt (rel_ HO_11.out)) k_ hk)); (case aO => exact (rel_ HO_12.out)); (case aS => exact (below_size bel_)); (case aL => have := LMc13.out; omega); intro v201 w15 ho hb hg hat; rw [← Ny200.out] at ho; have n0_ := Aside0.mk (Kd.R_after (ok := (fun _ => True)) (by (with_reducible repeat (first | apply Kd.R_alloc | apply Kd.R_drewN | apply Kd.R_drew)); exact Kd.R_mono HO_11.out (fun _ hk => ⟨trivial, hk⟩)) hg hat); have n1_ := Aside0.mk (hb); have n2_ := Aside0.mk (ho); clear HO_11; clear HB; clear HO_12; have HO_11 := n0_; have HB := n1_; have HO202 := n2_; clear n0_ n1_ n2_; clear ho hb hg hat))
      go_roundg k1
      case measure => have := HK1.out; omega
      case rel => exact ⟨(y200), (wrap64 (x31_1 + 1)), eq_, H', ⟨by have := HK1.out; omega⟩, ⟨by (with_reducible repeat (first | apply Kd.R_alloc | apply Kd.R_drewN | apply Kd.R_drew)); exact Kd.R_mono HO_11.out (fun _ hk => hk.2)⟩, ⟨rel_ HO202.out⟩, ⟨bel_⟩⟩
     ·rw [if_neg c13] at H
      exact absurd H (by simp)
    ·replace c10 := Bool.eq_false_iff.mpr c10
     subst c10
     have H1 := H; rw [if_neg (show ¬ (false = true) by decide)] at H1
     clear H
     have H := H1
     clear H1
     by_cases c16 : x12_1.length < 17592186044416
     ·rw [if_pos c16] at H
      have LMc16 := Aside0.mk c16
      clear c16
      obtain ⟨y203, hy203⟩ : ∃ y_ : List Int, y_ = (x12_1 ++ [t197]) := ⟨_, rfl⟩
      replace H : (epicycleref11_Run.l0 k1 a0 l2 false t194 y203 (l2.length : Int) (wrap64 (x31_1 + 1))) = some r := by first | (rw [hy203]; with_reducible exact H) | (have H2_ := (Option.bind_some _ _).symm.trans H; rw [hy203]; with_reducible exact H2_) | (have H2_ := (Option.bind_some _ _).symm.trans H; with_reducible exact H2_) | with_reducible exact H | (rw [hy203]; exact H) | exact H
      have Ny203 := Aside0.mk hy203
      clear hy203
      have H' := Aside0.mk H
      clear H
      obtain ⟨Ao17, co17, eo17⟩ := Kd.R_slice HO_11.out
      subst eo17
      go_wp2_with (first | (refine gl_ 38 Tryz.func56 #[.int .u64 a0, .slice Ao17 t194.length co17, .slice A2 l2.length c2, .int .i64 x31_1] rfl ?_; (with_reducible refine (epicycleref11_Sum.calls k1 a0 _ _ t194 _ _ l2 x31_1 t197 _ ?side1 ?side2 ?side3 ?side4 A9.out).mono ?_); (case side1 => repeat (first | exact (Kd.R_reads' HO_11.out).2.2 | (with_reducible refine Kd.C_alloc ?_ _) | (with_reducible refine Kd.C_drewN ?_ _) | (with_reducible refine Kd.C_drew ?_))); (case side2 => exact (Kd.R_reads' HO_11.out).2.1); (case side3 => exact cal_ (Kd.C_below HR2.out HB.out)); (case side4 => exact HC2.out); rintro e w' ⟨rfl, ⟨nd, rfl⟩⟩; refine ⟨_, rfl, ?_⟩) | ((with_reducible refine gate_builtin (b := .append) (xs := #[.tmp 48, .tmp 50]) rfl ?_); at_builtin; refine Kd.R_append (Kd.int .u64) (w0 := w) w.heap.size rfl (.tmp 48) (.tmp 50) 26 22 (.int .u64 0) 8 rfl Tryz.underlying26 info22 rfl (by decide) (by omega) u12 x12_1 t197 [.int .u64 t197] (fun k_ => some k_ ≠ (.slice Ao17 t194.length co17 : Value).ownBlock) (fun _ => False) rfl rfl ?aP (fun _ hk => hk.elim) ?aF ?aO ?aB ?aS ?aL ?_; (case aP => exact rfl); (case aB => exact bel_); (case aF => exact (fun k_ hk => Kd.fresh' (Kd.R_lt (rel_ HO_11.out)) k_ hk)); (case aO => exact (rel_ HO_12.out)); (case aS => exact (below_size bel_)); (case aL => have := LMc16.out; omega); intro v204 w18 ho hb hg hat; rw [← Ny203.out] at ho; have n0_ := Aside0.mk (Kd.R_after (ok := (fun _ => True)) (by (with_reducible repeat (first | apply Kd.R_alloc | apply Kd.R_drewN | apply Kd.R_drew)); exact Kd.R_mono HO_11.out (fun _ hk => ⟨trivial, hk⟩)) hg hat); have n1_ := Aside0.mk (hb); have n2_ := Aside0.mk (ho); clear HO_11; clear HB; clear HO_12; have HO_11 := n0_; have HB := n1_; have HO205 := n2_; clear n0_ n1_ n2_; clear ho hb hg hat))
      go_roundg k1
      case measure => have := HK1.out; omega
      case rel => exact ⟨(y203), (wrap64 (x31_1 + 1)), eq_, H', ⟨by have := HK1.out; omega⟩, ⟨by (with_reducible repeat (first | apply Kd.R_alloc | apply Kd.R_drewN | apply Kd.R_drew)); exact Kd.R_mono HO_11.out (fun _ hk => hk.2)⟩, ⟨rel_ HO205.out⟩, ⟨bel_⟩⟩
     ·rw [if_neg c16] at H
      exact absurd H (by simp)
   ·rw [if_neg c8] at H
    have c8b0 := decide_eq_false c8
    clear c8
    obtain rfl := Option.some.inj H
    go_wp2
    go_ret
    exact ⟨_, eq_, by (with_reducible repeat (first | apply Kd.R_alloc | apply Kd.R_drewN | apply Kd.R_drew)); exact Kd.R_mono HO_12.out (fun _ hk => trivial), bel_⟩
end Go.Proofs.YtndkmnjbjlfeaaaGreat.XG
end
section
namespace Go.Proofs.YtndkmnjbjlfeaaaGreat.T10
open Go Go.RowKit Go.Proofs.YtndkmnjbjlfeaaaGreatW.PrintWords Go.Proofs.YtndkmnjbjlfeaaaGreatW.PrintLast Go.Proofs.YtndkmnjbjlfeaaaGreatW.PrintMore Go.Proofs.YtndkmnjbjlfeaaaGreat.Given Go.Proofs.YtndkmnjbjlfeaaaGreat.M Go.Proofs.YtndkmnjbjlfeaaaGreat.Mont Go.Proofs.YtndkmnjbjlfeaaaGreat.XS Go.Proofs.YtndkmnjbjlfeaaaGreat.XT Go.Proofs.YtndkmnjbjlfeaaaGreat.XR Go.Proofs.YtndkmnjbjlfeaaaGreat.Num Go.Proofs.YtndkmnjbjlfeaaaGreat.XK Go.Proofs.YtndkmnjbjlfeaaaGreat.F06 Go.Proofs.YtndkmnjbjlfeaaaGreat.XW Go.Proofs.YtndkmnjbjlfeaaaGreat.XG
set_option linter.unusedVariables false
theorem powL_U {F : Fld} (hg : GoodFld F) (w : Int) (n : Nat) : ∀ x ∈ powL F.p w n, U x := fun x hx => by
  unfold powL at hx
  obtain ⟨i, _, rfl⟩ := List.mem_map.1 hx
  exact hg.uE _
theorem lifted_ev {F : Fld} (hg : GoodFld F) {n : Int} (h1 : 1 ≤ n) (h2 : n ≤ 4096) (hd : (F.p - 1) % n = 0) (inv : Bool) : Ev (fun k => twiddle_Lifted.f k [F] n inv) ((powL F.p (trootI F n inv) n.toNat).map (mIn F.p), 0) := by
  refine Ev.congr (fun k => rfl) (Ev.bind (table_ev hg h1 h2 hd inv) (evP ⟨powL_U hg _ _, by rw [powL_len]; omega⟩ (Ev.now _)))
theorem rroot_ev {F : Fld} (hg : GoodFld F) {n : Int} (hn : I64 n) (inv : Bool) : Ev (fun k => epicycleref10_Root.f k F.p F.g n inv) (trootS F n inv) := by
  have hlo := hg.lo
  have hhi := hg.hi
  unfold trootS
  by_cases h1 : n < 1
  · rw [if_pos h1]; exact Ev.congr (fun k => rfl) (evP h1 (Ev.now _))
  rw [if_neg h1]
  by_cases h2 : n > 4096
  · rw [if_pos h2]; exact Ev.congr (fun k => rfl) (evN h1 (evP h2 (Ev.now _)))
  rw [if_neg h2]
  have wn : IntKind.u64.wrap n = n := wu64_id _ (by omega) (by omega)
  have w1 : IntKind.u64.wrap (F.p - 1) = F.p - 1 := wu64_id _ (by omega) (by omega)
  have wm : IntKind.u64.wrap (wrap64 (n - 1)) = n - 1 := by rw [w64_id _ (by omega) (by omega)]; exact wu64_id _ (by omega) (by omega)
  have em : Int.tmod (IntKind.u64.wrap (F.p - 1)) (IntKind.u64.wrap n) = (F.p - 1) % n := by rw [w1, wn, tmod_pos (by omega)]
  by_cases hd : (F.p - 1) % n = 0
  · rw [if_pos hd]
    have hn0 : 0 < n := by omega
    have c1 : (Int.tmod (IntKind.u64.wrap (F.p - 1)) (IntKind.u64.wrap n) != 0) = false := by rw [em, hd]; rfl
    have RR : Ev (fun k => epicycleref06_Root.f k F.p F.g n) (rootI F n) := by
      refine Ev.congr (f := fun k => epicycleref06_Root.j0 k F.p F.g n false) (fun k => ?_) (Ev.step (f := fun k => epicycleref02_Pow.f k F.g ((F.p - 1) / n) F.p) (fun k => ?_) ?_)
      · unfold epicycleref06_Root.f
        rw [if_neg (by omega), if_neg (by rw [wn]; omega), c1]
      · simp only [epicycleref06_Root.j0]
        rw [if_neg (by decide), if_neg (by rw [wn]; omega), w1, wn, tdiv_pos (by omega)]
        have : IntKind.u64.wrap ((F.p - 1) / n) = (F.p - 1) / n := wu64_id _ (Int.ediv_nonneg (by omega) (by omega)) (by have := Int.ediv_le_self n (show 0 ≤ F.p - 1 by omega); omega)
        rw [this]
        cases epicycleref02_Pow.f k F.g ((F.p - 1) / n) F.p <;> rfl
      · exact ref02_Pow_ev hg.uG ⟨Int.ediv_nonneg (by omega) (by omega), by have := Int.ediv_le_self n (show 0 ≤ F.p - 1 by omega); omega⟩ hg.uP hg.ne
    refine Ev.congr (fun k => rfl) (evN h1 (evN h2 (evN (by rw [wn]; omega) (evP (by rw [em]; exact hd) (Ev.bind RR ?_)))))
    cases inv with
    | false => exact evN (by decide) (Ev.now _)
    | true =>
      have P := ref02_Pow_ev (hg.uRoot n) (e := n - 1) (by unfold U; omega) hg.uP hg.ne
      rw [← wm] at P
      refine evP rfl (Ev.bind P (evR (Ev.now _) ?_))
      refine congrArg (fun z => (z, (0 : Int))) ?_
      show rootI F n ^ (IntKind.u64.wrap (wrap64 (n - 1))).toNat % F.p = invF F.p (rootI F n)
      rw [wm]
      have hne := hg.root_ne hn0 hd
      obtain ⟨_, i1, _, i3, i4⟩ := hg.inv hne
      have := hg.cancel (a := rootI F n ^ (n - 1).toNat) (b := invF F.p (rootI F n)) hne (by
        rw [i1, ← Int.pow_succ, show (n - 1).toNat.succ = n.toNat by omega]
        exact (hg.root_ord hn0 hd _).2 (Nat.dvd_refl _))
      rw [this, Int.emod_eq_of_lt i3 i4]
  · rw [if_neg hd]
    exact Ev.congr (fun k => rfl) (evN h1 (evN h2 (evN (by rw [wn]; omega) (evN (by rw [em]; exact hd) (Ev.now _)))))
theorem rtable_l0 {F : Fld} (hg : GoodFld F) {w : Int} (uw : U w) {n : Nat} (hn : n ≤ 4096) (d : Nat) : ∀ i : Nat, i + d = n →
    Ev (fun k => epicycleref10_Table.l0 k F.p w (n : Int) (powL F.p w i) (w ^ i % F.p) (i : Int)) (powL F.p w n) := by
  induction d with
  | zero =>
    intro i hi
    exact stepE ⟨_, fun k => by simp only [epicycleref10_Table.l0]; rw [if_neg (by omega)], evR (Ev.now _) (by rw [show i = n by omega])⟩
  | succ d ih =>
    intro i hi
    have Mu := ref02_Mul_ev (hg.uE (w ^ i)) uw hg.uP hg.ne
    rw [emod_mul_l, ← Int.pow_succ] at Mu
    have e : powL F.p w i ++ [w ^ i % F.p] = powL F.p w (i + 1) := by unfold powL; rw [List.range_succ, List.map_append]; rfl
    have hl := powL_len F.p w i
    have IH := ih (i + 1) (by omega)
    rw [← e] at IH
    exact stepE ⟨_, fun k => by simp only [epicycleref10_Table.l0]; rw [if_pos (by omega), if_pos (by omega), wrap_succ (by omega)], Ev.bind Mu IH⟩
theorem rtable_ev {F : Fld} (hg : GoodFld F) {w : Int} (uw : U w) {n : Nat} (hn : n ≤ 4096) : Ev (fun k => epicycleref10_Table.f k F.p w (n : Int)) (powL F.p w n) := by
  have RT := rtable_l0 hg uw (n := n) hn n 0 (by omega)
  rw [Int.pow_zero, hg.one] at RT
  exact Ev.congr (fun k => rfl) RT
end Go.Proofs.YtndkmnjbjlfeaaaGreat.T10
end
section
namespace Go.Proofs.YtndkmnjbjlfeaaaGreat.XG
open Go.RowKit Go.Proofs.YtndkmnjbjlfeaaaGreat.Given Go.Proofs.YtndkmnjbjlfeaaaGreat.Row05 Go.Proofs.YtndkmnjbjlfeaaaGreat.XS Go.Proofs.YtndkmnjbjlfeaaaGreat.XT Go.Proofs.YtndkmnjbjlfeaaaGreat.XR Go.Proofs.YtndkmnjbjlfeaaaGreat.F06 Go.Proofs.YtndkmnjbjlfeaaaGreat.XK Go.Proofs.YtndkmnjbjlfeaaaGreat.XW Go.Proofs.YtndkmnjbjlfeaaaGreatW.PrintWords Go.Proofs.YtndkmnjbjlfeaaaGreatW.PrintLast Go.Proofs.YtndkmnjbjlfeaaaGreatW.PrintMore
attribute [local go_sem] max2_int min2_int max_two min_two max_three min_three max_four min_four
set_option linter.unusedVariables false
set_option linter.unusedSimpArgs false
noncomputable def dft_Check.f (l0 : List (Fld)) (a1 : Int) (a2 : Int) : Option (Int) := if (l0.length : Int) = 0 then (some 2) else (if a1 < 1 then (some 1) else (if a1 > a2 then (some 13) else ((field_Field_Divides.f l0 a1).bind fun t101 => (if t101 = true then (some 0) else (some 4)))))
set_option maxHeartbeats 8000000 in
set_option maxRecDepth 100000 in
theorem dft_Check.calls (A0 : Option Addr) (c0 : Nat) (l0 : List (Fld)) (a1 : Int) (a2 : Int) (r : Int) (w : World) (hr0 : Kd.C kFld w A0 l0.length l0) (hc0 : l0.length ≤ c0) (h : dft_Check.f l0 a1 a2 = some r) :
  Calls Tryz.prog 23 #[toPtr (.slice A0 l0.length c0), .int .i64 a1, .int .i64 a2] w fun e w' => e = .returned (.int .i64 r) ∧ Drawn0 w w' := by
 have HR0 := Aside0.mk hr0
 have HC0 := Aside0.mk hc0
 clear hr0 hc0
 have H := h; unfold dft_Check.f at H
 clear h
 by_cases c4 : (l0.length : Int) = 0
 ·rw [if_pos c4] at H
  have c4b0 := beq_iff_eq.mpr c4
  have c4b1 := bne_eq_false_iff_eq.mpr c4
  have hT_HR0 := pf_none A0 c0 (show l0.length = 0 by omega)
  (try rw [hT_HR0])
  clear c4
  obtain rfl := Option.some.inj H
  go_enter Tryz.func23, Tryz.ntmps23
  go_wp2
  go_ret
  exact ⟨eq_, dw_⟩
 ·rw [if_neg c4] at H
  have c4b0 := beq_eq_false_iff_ne.mpr c4
  have c4b1 := bne_iff_ne.mpr c4
  have c4b2 : ¬ (l0 = []) := fun h_ => c4 (by rw [h_]; rfl)
  obtain ⟨aT_HR0, hT_HR0⟩ := pf_some A0 c0 (show ¬ (l0.length = 0) by omega)
  (try rw [hT_HR0])
  by_cases c5 : a1 < 1
  ·rw [if_pos c5] at H
   have c5b0 := decide_eq_true c5
   clear c5
   obtain rfl := Option.some.inj H
   go_enter Tryz.func23, Tryz.ntmps23
   go_wp2
   go_ret
   exact ⟨eq_, dw_⟩
  ·rw [if_neg c5] at H
   have c5b0 := decide_eq_false c5
   clear c5
   by_cases c6 : a1 > a2
   ·rw [if_pos c6] at H
    have c6b0 := decide_eq_true c6
    clear c6
    obtain rfl := Option.some.inj H
    go_enter Tryz.func23, Tryz.ntmps23
    go_wp2
    go_ret
    exact ⟨eq_, dw_⟩
   ·rw [if_neg c6] at H
    have c6b0 := decide_eq_false c6
    clear c6
    replace H := Option.bind_eq_some_iff.mp H
    obtain ⟨t101, A70, H⟩ := H
    (try dsimp only at H)
    have A7 := Aside0.mk A70
    clear A70
    by_cases c8 : t101 = true
    ·subst c8
     have H1 := H; rw [if_pos rfl] at H1
     clear H
     have H := H1
     clear H1
     obtain rfl := Option.some.inj H
     go_enter Tryz.func23, Tryz.ntmps23
     go_wp2_with (first | ((with_reducible refine gate_callee (f := 58) rfl ?_); refine goesL_ (some 20) rfl rfl Tryz.func58 (by kernel_rfl) rfl #[toPtr (.slice A0 l0.length c0), .int .i64 a1] rfl (gaT_ hT_HR0) ?_; (try rw [← hT_HR0]); (with_reducible refine (field_Field_Divides.calls _ _ l0 a1 true _ ?side1 ?side2 A7.out).mono ?_); (case side1 => exact cal_ HR0.out); (case side2 => exact HC0.out); rintro e w' ⟨rfl, ⟨nd, rfl⟩⟩; refine ⟨_, rfl, ?_⟩))
     go_ret
     exact ⟨eq_, dw_⟩
    ·replace c8 := Bool.eq_false_iff.mpr c8
     subst c8
     have H1 := H; rw [if_neg (show ¬ (false = true) by decide)] at H1
     clear H
     have H := H1
     clear H1
     obtain rfl := Option.some.inj H
     go_enter Tryz.func23, Tryz.ntmps23
     go_wp2_with (first | ((with_reducible refine gate_callee (f := 58) rfl ?_); refine goesL_ (some 20) rfl rfl Tryz.func58 (by kernel_rfl) rfl #[toPtr (.slice A0 l0.length c0), .int .i64 a1] rfl (gaT_ hT_HR0) ?_; (try rw [← hT_HR0]); (with_reducible refine (field_Field_Divides.calls _ _ l0 a1 false _ ?side1 ?side2 A7.out).mono ?_); (case side1 => exact cal_ HR0.out); (case side2 => exact HC0.out); rintro e w' ⟨rfl, ⟨nd, rfl⟩⟩; refine ⟨_, rfl, ?_⟩))
     go_ret
     exact ⟨eq_, dw_⟩
noncomputable def dft_Good.l0 : Nat → List (Fld) → List Int → Int → Int → Option (Bool)
 | 0, _, _, _, _ => none
 | k + 1, x0, x7, x8, x9 => if x9 < x8 then (if 0 ≤ x9 then (if x9 < (x7.length : Int) then ((field_Field_Good.f x0 (rd x7 x9)).bind fun t103 => (if t103 = true then (dft_Good.l0 k x0 x7 x8 (wrap64 (x9 + 1))) else (some false))) else (none)) else (none)) else (if (x0.length : Int) = 0 then (some false) else (some true))
noncomputable def dft_Good.f (k : Nat) (l0 : List (Fld)) (l1 : List Int) : Option (Bool) := if (l0.length : Int) = 0 then (dft_Good.l0 k l0 l1 (l1.length : Int) 0) else (dft_Good.l0 k l0 l1 (l1.length : Int) 0)
set_option maxHeartbeats 8000000 in
set_option maxRecDepth 100000 in
theorem dft_Good.calls (k : Nat) (A0 : Option Addr) (c0 : Nat) (l0 : List (Fld)) (A1 : Option Addr) (c1 : Nat) (l1 : List Int) (r : Bool) (w : World) (hr0 : Kd.C kFld w A0 l0.length l0) (hc0 : l0.length ≤ c0) (hr1 : Kd.C (Kd.int .u64) w A1 l1.length l1) (hc1 : l1.length ≤ c1) (h : dft_Good.f k l0 l1 = some r) :
  Calls Tryz.prog 24 #[toPtr (.slice A0 l0.length c0), .slice A1 l1.length c1] w fun e w' => e = .returned (.bool r) ∧ Drawn0 w w' := by
 have HR0 := Aside0.mk hr0
 have HC0 := Aside0.mk hc0
 clear hr0 hc0
 have HR1 := Aside0.mk hr1
 have HC1 := Aside0.mk hc1
 clear hr1 hc1
 have H := h; unfold dft_Good.f at H
 clear h
 by_cases c3 : (l0.length : Int) = 0
 ·rw [if_pos c3] at H
  have c3b0 := beq_iff_eq.mpr c3
  have c3b1 := bne_eq_false_iff_eq.mpr c3
  have hT_HR0 := pf_none A0 c0 (show l0.length = 0 by omega)
  (try rw [hT_HR0])
  clear c3
  have H' := Aside0.mk H
  clear H
  go_enter Tryz.func24, Tryz.ntmps24
  go_wp2
  go_loopg [9] k (fun kq v9 w' => ∃ (x9_1 : Int), v9 = .int .i64 x9_1 ∧ Aside0 (dft_Good.l0 kq l0 l1 (l1.length : Int) x9_1 = some r) ∧ Aside0 (kq ≤ k) ∧ Drawn0 w w')
  case atStart => exact ⟨(0), eq_, H', ⟨Nat.le_refl _⟩, dw_⟩
  case round =>
   clear H'
   obtain ⟨x9_1, rfl, HA, HK1, ⟨m1, rfl⟩⟩ := hrel
   cases gk with
   | zero => exact absurd HA.out (by simp [dft_Good.l0])
   | succ k1 =>
    have H := HA.out
    clear HA
    simp only [dft_Good.l0] at H
    by_cases c4 : x9_1 < (l1.length : Int)
    ·rw [if_pos c4] at H
     have c4b0 := decide_eq_true c4
     clear c4
     by_cases c5 : 0 ≤ x9_1
     ·rw [if_pos c5] at H
      have c5b0 := decide_eq_true c5
      clear c5
      by_cases c6 : x9_1 < (l1.length : Int)
      ·rw [if_pos c6] at H
       have c6b0 := decide_eq_true c6
       clear c6
       replace H := Option.bind_eq_some_iff.mp H
       obtain ⟨t103, A70, H⟩ := H
       (try dsimp only at H)
       have A7 := Aside0.mk A70
       clear A70
       by_cases c8 : t103 = true
       ·subst c8
        have H1 := H; rw [if_pos rfl] at H1
        clear H
        have H := H1
        clear H1
        have H' := Aside0.mk H
        clear H
        have p102 : 0 ≤ (x9_1 : Int) := of_decide_eq_true (by assumption)
        have q102 : x9_1 < (l1.length : Int) := of_decide_eq_true (by assumption)
        obtain ⟨ad102, e102, hx102_0⟩ := Kd.at_int HR1.out x9_1 p102 q102
        cases e102
        replace p102 := eq_true p102
        replace q102 := eq_true q102
        go_wp2_with (first | ((with_reducible refine gate_callee (f := 59) rfl ?_); refine goesL_ (some 15) rfl rfl Tryz.func59 (by kernel_rfl) rfl #[toPtr (.slice A0 l0.length c0), .int .u64 (rd l1 x9_1)] rfl (gaT_ hT_HR0) ?_; (try rw [← hT_HR0]); (with_reducible refine (field_Field_Good.calls _ _ l0 (rd l1 x9_1) true _ ?side1 ?side2 A7.out).mono ?_); (case side1 => exact cal_ HR0.out); (case side2 => exact HC0.out); rintro e w' ⟨rfl, ⟨nd, rfl⟩⟩; refine ⟨_, rfl, ?_⟩))
        go_roundg k1
        case measure => have := HK1.out; omega
        case rel => exact ⟨(wrap64 (x9_1 + 1)), eq_, H', ⟨by have := HK1.out; omega⟩, dw_⟩
       ·replace c8 := Bool.eq_false_iff.mpr c8
        subst c8
        have H1 := H; rw [if_neg (show ¬ (false = true) by decide)] at H1
        clear H
        have H := H1
        clear H1
        obtain rfl := Option.some.inj H
        have p102 : 0 ≤ (x9_1 : Int) := of_decide_eq_true (by assumption)
        have q102 : x9_1 < (l1.length : Int) := of_decide_eq_true (by assumption)
        obtain ⟨ad102, e102, hx102_0⟩ := Kd.at_int HR1.out x9_1 p102 q102
        cases e102
        replace p102 := eq_true p102
        replace q102 := eq_true q102
        go_wp2_with (first | ((with_reducible refine gate_callee (f := 59) rfl ?_); refine goesL_ (some 15) rfl rfl Tryz.func59 (by kernel_rfl) rfl #[toPtr (.slice A0 l0.length c0), .int .u64 (rd l1 x9_1)] rfl (gaT_ hT_HR0) ?_; (try rw [← hT_HR0]); (with_reducible refine (field_Field_Good.calls _ _ l0 (rd l1 x9_1) false _ ?side1 ?side2 A7.out).mono ?_); (case side1 => exact cal_ HR0.out); (case side2 => exact HC0.out); rintro e w' ⟨rfl, ⟨nd, rfl⟩⟩; refine ⟨_, rfl, ?_⟩))
        go_ret
        exact ⟨eq_, dw_⟩
      ·rw [if_neg c6] at H
       exact absurd H (by simp)
     ·rw [if_neg c5] at H
      exact absurd H (by simp)
    ·rw [if_neg c4] at H
     have c4b0 := decide_eq_false c4
     clear c4
     by_cases c9 : (l0.length : Int) = 0
     ·rw [if_pos c9] at H
      have c9b0 := beq_iff_eq.mpr c9
      have c9b1 := bne_eq_false_iff_eq.mpr c9
      have hT_HR0 := pf_none A0 c0 (show l0.length = 0 by omega)
      (try rw [hT_HR0])
      clear c9
      obtain rfl := Option.some.inj H
      go_wp2
      go_ret
      exact ⟨eq_, dw_⟩
     ·rw [if_neg c9] at H
      have c9b0 := beq_eq_false_iff_ne.mpr c9
      have c9b1 := bne_iff_ne.mpr c9
      have c9b2 : ¬ (l0 = []) := fun h_ => c9 (by rw [h_]; rfl)
      obtain ⟨_, hq_⟩ := pf_some A0 c0 (show ¬ (l0.length = 0) by omega)
      exact absurd (hT_HR0.symm.trans hq_) (by simp)
 ·rw [if_neg c3] at H
  have c3b0 := beq_eq_false_iff_ne.mpr c3
  have c3b1 := bne_iff_ne.mpr c3
  have c3b2 : ¬ (l0 = []) := fun h_ => c3 (by rw [h_]; rfl)
  obtain ⟨aT_HR0, hT_HR0⟩ := pf_some A0 c0 (show ¬ (l0.length = 0) by omega)
  (try rw [hT_HR0])
  have H' := Aside0.mk H
  clear H
  go_enter Tryz.func24, Tryz.ntmps24
  go_wp2
  go_loopg [9] k (fun kq v9 w' => ∃ (x9_1 : Int), v9 = .int .i64 x9_1 ∧ Aside0 (dft_Good.l0 kq l0 l1 (l1.length : Int) x9_1 = some r) ∧ Aside0 (kq ≤ k) ∧ Drawn0 w w')
  case atStart => exact ⟨(0), eq_, H', ⟨Nat.le_refl _⟩, dw_⟩
  case round =>
   clear H'
   try clear hx1
   try clear hx102_0
   obtain ⟨x9_1, rfl, HA, HK1, ⟨m1, rfl⟩⟩ := hrel
   cases gk with
   | zero => exact absurd HA.out (by simp [dft_Good.l0])
   | succ k1 =>
    have H := HA.out
    clear HA
    simp only [dft_Good.l0] at H
    by_cases c10 : x9_1 < (l1.length : Int)
    ·rw [if_pos c10] at H
     have c10b0 := decide_eq_true c10
     clear c10
     by_cases c11 : 0 ≤ x9_1
     ·rw [if_pos c11] at H
      have c11b0 := decide_eq_true c11
      clear c11
      by_cases c12 : x9_1 < (l1.length : Int)
      ·rw [if_pos c12] at H
       have c12b0 := decide_eq_true c12
       clear c12
       replace H := Option.bind_eq_some_iff.mp H
       obtain ⟨t103, A130, H⟩ := H
       (try dsimp only at H)
       have A13 := Aside0.mk A130
       clear A130
       by_cases c14 : t103 = true
       ·subst c14
        have H1 := H; rw [if_pos rfl] at H1
        clear H
        have H := H1
        clear H1
        have H' := Aside0.mk H
        clear H
        have p102 : 0 ≤ (x9_1 : Int) := of_decide_eq_true (by assumption)
        have q102 : x9_1 < (l1.length : Int) := of_decide_eq_true (by assumption)
        obtain ⟨ad102, e102, hx102_0⟩ := Kd.at_int HR1.out x9_1 p102 q102
        cases e102
        replace p102 := eq_true p102
        replace q102 := eq_true q102
        go_wp2_with (first | ((with_reducible refine gate_callee (f := 59) rfl ?_); refine goesL_ (some 15) rfl rfl Tryz.func59 (by kernel_rfl) rfl #[toPtr (.slice A0 l0.length c0), .int .u64 (rd l1 x9_1)] rfl (gaT_ hT_HR0) ?_; (try rw [← hT_HR0]); (with_reducible refine (field_Field_Good.calls _ _ l0 (rd l1 x9_1) true _ ?side1 ?side2 A13.out).mono ?_); (case side1 => exact cal_ HR0.out); (case side2 => exact HC0.out); rintro e w' ⟨rfl, ⟨nd, rfl⟩⟩; refine ⟨_, rfl, ?_⟩))
        go_roundg k1
        case measure => have := HK1.out; omega
        case rel => exact ⟨(wrap64 (x9_1 + 1)), eq_, H', ⟨by have := HK1.out; omega⟩, dw_⟩
       ·replace c14 := Bool.eq_false_iff.mpr c14
        subst c14
        have H1 := H; rw [if_neg (show ¬ (false = true) by decide)] at H1
        clear H
        have H := H1
        clear H1
        obtain rfl := Option.some.inj H
        have p102 : 0 ≤ (x9_1 : Int) := of_decide_eq_true (by assumption)
        have q102 : x9_1 < (l1.length : Int) := of_decide_eq_true (by assumption)
        obtain ⟨ad102, e102, hx102_0⟩ := Kd.at_int HR1.out x9_1 p102 q102
        cases e102
        replace p102 := eq_true p102
        replace q102 := eq_true q102
        go_wp2_with (first | ((with_reducible refine gate_callee (f := 59) rfl ?_); refine goesL_ (some 15) rfl rfl Tryz.func59 (by kernel_rfl) rfl #[toPtr (.slice A0 l0.length c0), .int .u64 (rd l1 x9_1)] rfl (gaT_ hT_HR0) ?_; (try rw [← hT_HR0]); (with_reducible refine (field_Field_Good.calls _ _ l0 (rd l1 x9_1) false _ ?side1 ?side2 A13.out).mono ?_); (case side1 => exact cal_ HR0.out); (case side2 => exact HC0.out); rintro e w' ⟨rfl, ⟨nd, rfl⟩⟩; refine ⟨_, rfl, ?_⟩))
        go_ret
        exact ⟨eq_, dw_⟩
      ·rw [if_neg c12] at H
       exact absurd H (by simp)
     ·rw [if_neg c11] at H
      exact absurd H (by simp)
    ·rw [if_neg c10] at H
     have c10b0 := decide_eq_false c10
     clear c10
     by_cases c15 : (l0.length : Int) = 0
     ·rw [if_pos c15] at H
      have c15b0 := beq_iff_eq.mpr c15
      have c15b1 := bne_eq_false_iff_eq.mpr c15
      have hq_ := pf_none A0 c0 (show l0.length = 0 by omega)
      exact absurd (hT_HR0.symm.trans hq_) (by simp)
     ·rw [if_neg c15] at H
      have c15b0 := beq_eq_false_iff_ne.mpr c15
      have c15b1 := bne_iff_ne.mpr c15
      have c15b2 : ¬ (l0 = []) := fun h_ => c15 (by rw [h_]; rfl)
      obtain ⟨aT_HR0, hT_HR0⟩ := pf_some A0 c0 (show ¬ (l0.length = 0) by omega)
      (try rw [hT_HR0])
      obtain rfl := Option.some.inj H
      go_wp2
      go_ret
      exact ⟨eq_, dw_⟩
noncomputable def dft_Scale.l0 : Nat → List (Fld) → Int → List Int → List Int → Int → Int → Option (List Int)
 | 0, _, _, _, _, _, _ => none
 | k + 1, x0, x5, x6, x19, x20, x21 => if x21 < x20 then (if 0 ≤ x21 then (if x21 < (x19.length : Int) then ((field_Field_Times.f x0 x5 (rd x19 x21)).bind fun t110 => (if x21 < (x6.length : Int) then (dft_Scale.l0 k x0 x5 (x6.set (x21 : Int).toNat t110) x19 x20 (wrap64 (x21 + 1))) else (none))) else (none)) else (none)) else (some x6)
noncomputable def dft_Scale.f (k : Nat) (l0 : List (Fld)) (l1 : List Int) : Option (List Int) := (field_Field_Inv.f l0 (IntKind.u64.wrap ((l1.length : Int)))).bind fun t104 => ((field_Field_Lift.f l0 t104).bind fun t105 => (if 0 ≤ (l1.length : Int) then (if ((l1.length : Int) : Int).toNat ≤ 35184372088832 then (dft_Scale.l0 k l0 t105 (List.replicate ((l1.length : Int) : Int).toNat 0) l1 (l1.length : Int) 0) else (none)) else (none)))
set_option maxHeartbeats 8000000 in
set_option maxRecDepth 100000 in
theorem dft_Scale.calls (k : Nat) (A0 : Option Addr) (c0 : Nat) (l0 : List (Fld)) (A1 : Option Addr) (c1 : Nat) (l1 : List Int) (r : List Int) (w : World) (hr0 : Kd.C kFld w A0 l0.length l0) (hc0 : l0.length ≤ c0) (hr1 : Kd.C (Kd.int .u64) w A1 l1.length l1) (hc1 : l1.length ≤ c1) (h : dft_Scale.f k l0 l1 = some r) :
  Calls Tryz.prog 25 #[toPtr (.slice A0 l0.length c0), .slice A1 l1.length c1] w fun e w' => ∃ v0_ : Value, e = .returned (v0_) ∧ Kd.R (Kd.int .u64) 22 w' w.heap.size (fun _ => True) v0_ r ∧ Below w.heap.size w w' := by
 have HR0 := Aside0.mk hr0
 have HC0 := Aside0.mk hc0
 clear hr0 hc0
 have HR1 := Aside0.mk hr1
 have HC1 := Aside0.mk hc1
 clear hr1 hc1
 have HB := Aside0.mk (Below.refl w.heap.size w)
 have H := h; unfold dft_Scale.f at H
 clear h
 replace H := Option.bind_eq_some_iff.mp H
 obtain ⟨t104, A30, H⟩ := H
 (try dsimp only at H)
 have A3 := Aside0.mk A30
 clear A30
 replace H := Option.bind_eq_some_iff.mp H
 obtain ⟨t105, A40, H⟩ := H
 (try dsimp only at H)
 have A4 := Aside0.mk A40
 clear A40
 by_cases c5 : 0 ≤ (l1.length : Int)
 ·rw [if_pos c5] at H
  have c5b0 := eq_true c5
  have c5b1 := decide_eq_true c5
  clear c5
  by_cases c6 : ((l1.length : Int) : Int).toNat ≤ 35184372088832
  ·rw [if_pos c6] at H
   have c6b0 := eq_true c6
   have c6b1 := decide_eq_true c6
   clear c6
   obtain ⟨y106, hy106⟩ : ∃ y_ : List Int, y_ = (List.replicate ((l1.length : Int) : Int).toNat 0) := ⟨_, rfl⟩
   replace H : (dft_Scale.l0 k l0 t105 y106 l1 (l1.length : Int) 0) = some r := by first | (rw [hy106]; with_reducible exact H) | (have H2_ := (Option.bind_some _ _).symm.trans H; rw [hy106]; with_reducible exact H2_) | (have H2_ := (Option.bind_some _ _).symm.trans H; with_reducible exact H2_) | with_reducible exact H | (rw [hy106]; exact H) | exact H
   have Ny106 := Aside0.mk hy106
   clear hy106
   have H' := Aside0.mk H
   clear H
   go_enter Tryz.func25, Tryz.ntmps25
   go_wp2_with (first | ((with_reducible refine gate_callee (f := 61) rfl ?_); refine goesL_ (some 14) rfl rfl Tryz.func61 (by kernel_rfl) rfl #[toPtr (.slice A0 l0.length c0), .int .u64 (IntKind.u64.wrap ((l1.length : Int)))] rfl (by (try simp only [List.map_toArray, List.map_cons, List.map_nil]); first | done | (rw [hT_HR0] <;> rfl) | rfl | (simp only [List.length_drop, List.length_take]; rfl)) ?_; (try rw [← hT_HR0]); (with_reducible refine (field_Field_Inv.calls _ _ l0 (IntKind.u64.wrap ((l1.length : Int))) t104 _ ?side1 ?side2 A3.out).mono ?_); (case side1 => exact cal_ HR0.out); (case side2 => exact HC0.out); rintro e w' ⟨rfl, ⟨nd, rfl⟩⟩; refine ⟨_, rfl, ?_⟩) | ((with_reducible refine gate_callee (f := 60) rfl ?_); refine goesL_ (some 15) rfl rfl Tryz.func60 (by kernel_rfl) rfl #[toPtr (.slice A0 l0.length c0), .int .u64 t104] rfl (by (try simp only [List.map_toArray, List.map_cons, List.map_nil]); first | done | (rw [hT_HR0] <;> rfl) | rfl | (simp only [List.length_drop, List.length_take]; rfl)) ?_; (try rw [← hT_HR0]); (with_reducible refine (field_Field_Lift.calls _ _ l0 t104 t105 _ ?side1 ?side2 A4.out).mono ?_); (case side1 => exact cal_ HR0.out); (case side2 => exact HC0.out); rintro e w' ⟨rfl, ⟨nd, rfl⟩⟩; refine ⟨_, rfl, ?_⟩) | ((with_reducible refine gate_dst (N := 18) rfl ?_); refine Kd.R_make (Kd.int .u64) _ 22 rfl (N := 18) rfl 26 _ _ rfl (l1.length : Int) rfl rfl Tryz.underlying26 (.int .u64 0) 8 info22 rfl (by decide) (by omega) 0 (ok := fun _ => True) (okp := fun _ => True) rfl (fun _ hk => hk) trivial (of_decide_eq_true (by assumption)) (Nat.le_trans (Nat.mul_le_mul_right _ (of_decide_eq_true (by assumption) : (l1.length : Int).toNat ≤ 35184372088832)) (by omega)) (Below.refl _ _) (Nat.le_refl _) ?_; intro v107 w7 ho8 hb hg_ hnew_; clear hg_ hnew_; (first | rw [← Ny106.out] at ho8 | (simp only [Int.reduceToNat] at ho8; rw [← Ny106.out] at ho8)); have n0_ := Aside0.mk (Kd.R_lower ho8 (below_size bel_)); have n1_ := Aside0.mk (below_step bel_ hb); clear HB; have HO108 := n0_; have HB := n1_; clear n0_ n1_; clear hb ho8))
   go_loopg [21] k (fun kq v21 w' => ∃ (x6_1 : List Int) (x21_1 : Int), v21 = .int .i64 x21_1 ∧ Aside0 (dft_Scale.l0 kq l0 t105 x6_1 l1 (l1.length : Int) x21_1 = some r) ∧ Aside0 (kq ≤ k) ∧ Aside0 (Kd.R (Kd.int .u64) 22 w' w.heap.size (fun _ => True) v107 x6_1) ∧ Aside0 (Below w.heap.size w w'))
   case atStart => exact ⟨(y106), (0), eq_, H', ⟨Nat.le_refl _⟩, ⟨rel_ HO108.out⟩, ⟨bel_⟩⟩
   case round =>
    clear H'
    obtain ⟨x6_1, x21_1, rfl, HA, HK1, HO_6, HB⟩ := hrel
    cases gk with
    | zero => exact absurd HA.out (by simp [dft_Scale.l0])
    | succ k1 =>
     have H := HA.out
     clear HA
     simp only [dft_Scale.l0] at H
     by_cases c9 : x21_1 < (l1.length : Int)
     ·rw [if_pos c9] at H
      have c9b0 := decide_eq_true c9
      clear c9
      by_cases c10 : 0 ≤ x21_1
      ·rw [if_pos c10] at H
       have c10b0 := decide_eq_true c10
       clear c10
       by_cases c11 : x21_1 < (l1.length : Int)
       ·rw [if_pos c11] at H
        have c11b0 := decide_eq_true c11
        clear c11
        replace H := Option.bind_eq_some_iff.mp H
        obtain ⟨t110, A120, H⟩ := H
        (try dsimp only at H)
        have A12 := Aside0.mk A120
        clear A120
        by_cases c13 : x21_1 < (x6_1.length : Int)
        ·rw [if_pos c13] at H
         have c13b0 := decide_eq_true c13
         clear c13
         obtain ⟨y111, hy111⟩ : ∃ y_ : List Int, y_ = (x6_1.set (x21_1 : Int).toNat t110) := ⟨_, rfl⟩
         replace H : (dft_Scale.l0 k1 l0 t105 y111 l1 (l1.length : Int) (wrap64 (x21_1 + 1))) = some r := by first | (rw [hy111]; with_reducible exact H) | (have H2_ := (Option.bind_some _ _).symm.trans H; rw [hy111]; with_reducible exact H2_) | (have H2_ := (Option.bind_some _ _).symm.trans H; with_reducible exact H2_) | with_reducible exact H | (rw [hy111]; exact H) | exact H
         have Ny111 := Aside0.mk hy111
         clear hy111
         have H' := Aside0.mk H
         clear H
         have p109 : 0 ≤ (x21_1 : Int) := of_decide_eq_true (by assumption)
         have q109 : x21_1 < (l1.length : Int) := of_decide_eq_true (by assumption)
         obtain ⟨ad109, e109, hx109_0⟩ := Kd.at_int HR1.out x21_1 p109 q109
         cases e109
         replace hx109_0 := hb_ HB.out hx109_0
         replace p109 := eq_true p109
         replace q109 := eq_true q109
         go_wp2_with (first | ((with_reducible refine gate_callee (f := 62) rfl ?_); refine goesL_ (some 31) rfl rfl Tryz.func62 (by kernel_rfl) rfl #[toPtr (.slice A0 l0.length c0), .int .u64 t105, .int .u64 (rd l1 x21_1)] rfl (by (try simp only [List.map_toArray, List.map_cons, List.map_nil]); first | done | (rw [hT_HR0] <;> rfl) | rfl | (simp only [List.length_drop, List.length_take]; rfl)) ?_; (try rw [← hT_HR0]); (with_reducible refine (field_Field_Times.calls _ _ l0 t105 (rd l1 x21_1) t110 _ ?side1 ?side2 A12.out).mono ?_); (case side1 => exact cal_ (Kd.C_below HR0.out HB.out)); (case side2 => exact HC0.out); rintro e w' ⟨rfl, ⟨nd, rfl⟩⟩; refine ⟨_, rfl, ?_⟩; (try (rw [drewN_self wr]; generalize hq_ : World.drewN wr _ = wr; have n0_ : Aside0 (Kd.R (Kd.int .u64) 22 wr w.heap.size (fun _ => True) v107 x6_1) := ⟨by rw [← hq_]; exact (rel_ HO_6.out)⟩; have n1_ : Aside0 (Below w.heap.size w wr) := ⟨by rw [← hq_]; exact bel_⟩; clear HO_6 HB hq_; have HO_6 := n0_; have HB := n1_; clear n0_ n1_)); have p14 : 0 ≤ (x21_1 : Int) := of_decide_eq_true (by assumption); have q14 : (x21_1 : Int) < ((x6_1.length : Int) : Int) := of_decide_eq_true (by assumption); obtain ⟨go14, co14, eo14, gb14, gl14, cl14, HG14⟩ := Kd.R_form HO_6.out (by omega); (first | cases eo14 | (injection eo14 with ea_ en_ ec_; (first | subst ea_ | (injection ea_ with ea_; subst ea_)); subst ec_; clear en_)); have GB14 := Aside0.mk gb14; have GG14 := Aside0.mk HG14; clear gb14 gl14 HG14; obtain ⟨hx14_0, hf14_0⟩ := Kd.R_celln 0 HO_6.out (x21_1 : Int) p14 q14; replace p14 := eq_true p14; replace q14 := eq_true q14; obtain ⟨hy15_, hz15_⟩ := Kd.R_celln 0 HO_6.out (x21_1 : Int) (of_decide_eq_true (by assumption)) (of_decide_eq_true (by assumption)); have HP15 := Kd.R_putg HO_6.out (x21_1 : Int) t110) | ((with_reducible refine gate_store (t := 22) (p := 32) rfl ?_); refine store_event (t := 22) (p := 32) (v := ?vo_w16) (w1 := (wr.setCell ⟨go14, (x21_1 : Int).toNat, none⟩ (.int .u64 t110))) ?hg ?ho ?hn ?hr ?_; (case ho => rfl); (case hg => rfl); (case hn => rfl); (case hr => first | (go_simp; done) | (go_simp; rfl)); intro w16 hw; have hg : wr.grownBy w16 (some go14) := (by rw [hw]; exact HP15.2); have hp_ : Kd.R (Kd.int .u64) 22 w16 w.heap.size (fun _ => True) (.slice (some ⟨go14, 0, none⟩) x6_1.length co14) y111 := (by rw [hw, Ny111.out]; exact HP15.1); clear HP15; have n0_ := Aside0.mk (hp_); have n1_ := Aside0.mk ((by rw [hw]; exact below_set (HB.out) GB14.out : Below w.heap.size w w16)); clear HO_6; clear HB; have HO_6 := n0_; have HB := n1_; clear n0_ n1_; clear hg hw hp_))
         go_roundg k1
         case measure => have := HK1.out; omega
         case rel => exact ⟨(y111), (wrap64 (x21_1 + 1)), eq_, H', ⟨by have := HK1.out; omega⟩, ⟨rel_ HO_6.out⟩, ⟨bel_⟩⟩
        ·rw [if_neg c13] at H
         exact absurd H (by simp)
       ·rw [if_neg c11] at H
        exact absurd H (by simp)
      ·rw [if_neg c10] at H
       exact absurd H (by simp)
     ·rw [if_neg c9] at H
      have c9b0 := decide_eq_false c9
      clear c9
      obtain rfl := Option.some.inj H
      go_wp2
      go_ret
      exact ⟨_, eq_, rel_ HO_6.out, bel_⟩
  ·rw [if_neg c6] at H
   exact absurd H (by simp)
 ·rw [if_neg c5] at H
  exact absurd H (by simp)
end Go.Proofs.YtndkmnjbjlfeaaaGreat.XG
end
section
namespace Go.Proofs.YtndkmnjbjlfeaaaGreat.XG
open Go.RowKit Go.Proofs.YtndkmnjbjlfeaaaGreat.Given Go.Proofs.YtndkmnjbjlfeaaaGreat.Row05 Go.Proofs.YtndkmnjbjlfeaaaGreat.XS Go.Proofs.YtndkmnjbjlfeaaaGreat.XT Go.Proofs.YtndkmnjbjlfeaaaGreat.XR Go.Proofs.YtndkmnjbjlfeaaaGreat.F06 Go.Proofs.YtndkmnjbjlfeaaaGreat.XK Go.Proofs.YtndkmnjbjlfeaaaGreat.XW Go.Proofs.YtndkmnjbjlfeaaaGreatW.PrintWords Go.Proofs.YtndkmnjbjlfeaaaGreatW.PrintLast Go.Proofs.YtndkmnjbjlfeaaaGreatW.PrintMore
attribute [local go_sem] max2_int min2_int max_two min_two max_three min_three max_four min_four   -- for this text's walks alone
set_option linter.unusedVariables false
set_option linter.unusedSimpArgs false
end Go.Proofs.YtndkmnjbjlfeaaaGreat.XG
end
section
namespace Go.Proofs.YtndkmnjbjlfeaaaGreat.D11
open Go Go.RowKit Go.Proofs.YtndkmnjbjlfeaaaGreatW.PrintWords Go.Proofs.YtndkmnjbjlfeaaaGreatW.PrintLast Go.Proofs.YtndkmnjbjlfeaaaGreatW.PrintMore Go.Proofs.YtndkmnjbjlfeaaaGreat.Given Go.Proofs.YtndkmnjbjlfeaaaGreat.M Go.Proofs.YtndkmnjbjlfeaaaGreat.Mont Go.Proofs.YtndkmnjbjlfeaaaGreat.XS Go.Proofs.YtndkmnjbjlfeaaaGreat.XT Go.Proofs.YtndkmnjbjlfeaaaGreat.XR Go.Proofs.YtndkmnjbjlfeaaaGreat.Num Go.Proofs.YtndkmnjbjlfeaaaGreat.XK Go.Proofs.YtndkmnjbjlfeaaaGreat.F06 Go.Proofs.YtndkmnjbjlfeaaaGreat.T10 Go.Proofs.YtndkmnjbjlfeaaaGreat.XW Go.Proofs.YtndkmnjbjlfeaaaGreat.XG
set_option linter.unusedVariables false
theorem rd_at {l : List Int} {i : Nat} (h : i < l.length) : rd l (i : Int) = l[i] := by
  rw [rd_nat, List.getD_eq_getElem?_getD, List.getElem?_eq_getElem h]
  rfl
theorem take_set1 {α : Type} {y : List α} {i : Nat} (v : α) (h : i < y.length) : (y.set i v).take (i + 1) = y.take i ++ [v] := by
  have hl : (y.take i).length = i := by rw [List.length_take]; omega
  rw [List.take_set, List.take_succ_eq_append_getElem h, List.set_append_right _ _ (by omega), hl, Nat.sub_self, List.set_cons_zero]
theorem rd_set {y : List Int} {i : Nat} (v : Int) (h : i < y.length) : rd (y.set i v) (i : Int) = v := by
  rw [rd_at (by rw [List.length_set]; exact h), List.getElem_set_self]
theorem rd_set_ne {y : List Int} {i j : Nat} (v : Int) (h : i ≠ j) : rd (y.set i v) (j : Int) = rd y (j : Int) := by
  rw [rd_nat, rd_nat, List.getD_eq_getElem?_getD, List.getD_eq_getElem?_getD, List.getElem?_set_ne h]
theorem rd_map_range {f : Nat → Int} {n i : Nat} (h : i < n) : rd ((List.range n).map f) (i : Int) = f i := by
  rw [rd_at (by rw [List.length_map, List.length_range]; exact h), List.getElem_map, List.getElem_range]
def chk (p n most : Int) : Int := if n < 1 then 1 else if n > most then 13 else if (p - 1) % n = 0 then 0 else 4
theorem check_at {F : Fld} {n most : Int} (hn : I64 n) : dft_Check.f [F] n most = some (chk F.p n most) := by
  unfold dft_Check.f chk
  rw [if_neg (by simp)]
  by_cases h1 : n < 1
  · rw [if_pos h1, if_pos h1]
  rw [if_neg h1, if_neg h1]
  by_cases h2 : n > most
  · rw [if_pos h2, if_pos h2]
  rw [if_neg h2, if_neg h2, Divides_at F hn.2]
  by_cases h3 : (F.p - 1) % n = 0
  · rw [if_pos h3, decide_eq_true ⟨by omega, h3⟩]; rfl
  · rw [if_neg h3, decide_eq_false (fun h => h3 h.2)]; rfl
theorem check_nil (n most : Int) : dft_Check.f [] n most = some 2 := by unfold dft_Check.f; rw [if_pos (show ((([] : List Fld).length : Int) = 0) from rfl)]
theorem rcheck_at {p n most : Int} (hp : 3 ≤ p) (hp' : p < 9223372036854775808) (hn : I64 n) : epicycleref11_Check.f p n most = some (chk p n most) := by
  have hn2 := hn.2
  unfold epicycleref11_Check.f chk
  by_cases h1 : n < 1
  · rw [if_pos h1, if_pos h1]
  rw [if_neg h1, if_neg h1]
  by_cases h2 : n > most
  · rw [if_pos h2, if_pos h2]
  have wn : IntKind.u64.wrap n = n := wu64_id _ (by omega) (by omega)
  have w1 : IntKind.u64.wrap (p - 1) = p - 1 := wu64_id _ (by omega) (by omega)
  rw [if_neg h2, if_neg h2, wn, w1, if_neg (by omega), tmod_pos (by omega)]
  by_cases h3 : (p - 1) % n = 0
  · rw [if_pos h3, if_pos h3]
  · rw [if_neg h3, if_neg h3]
theorem chk_0 {p n most : Int} (h : chk p n most = 0) : 1 ≤ n ∧ n ≤ most ∧ (p - 1) % n = 0 := by
  unfold chk at h
  split at h
  · omega
  split at h
  · omega
  split at h
  · rename_i h3; exact ⟨by omega, by omega, h3⟩
  · omega
theorem chk_of {p n most : Int} (h1 : 1 ≤ n) (h2 : n ≤ most) (h3 : (p - 1) % n = 0) : chk p n most = 0 := by
  unfold chk
  rw [if_neg (by omega), if_neg (by omega), if_pos h3]
def allB (p : Int) (l : List Int) : Bool := decide (∀ x ∈ l, x < p)
theorem allB_cons (p x : Int) (l : List Int) : allB p (x :: l) = (decide (x < p) && allB p l) := by
  unfold allB
  rw [Bool.eq_iff_iff]
  simp
theorem allB_nil (p : Int) : allB p [] = true := by unfold allB; simp
theorem good_l0 {F : Fld} {l : List Int} (hn : l.length ≤ 1000000) (d : Nat) : ∀ i : Nat, i + d = l.length → Ev (fun k => dft_Good.l0 k [F] l (l.length : Int) (i : Int)) (allB F.p (l.drop i)) := by
  induction d with
  | zero =>
    intro i hi
    refine stepE ⟨_, fun k => by simp only [dft_Good.l0]; rw [if_neg (by omega), if_neg (by simp)], evR (Ev.now _) ?_⟩
    rw [List.drop_eq_nil_of_le (by omega), allB_nil]
  | succ d ih =>
    intro i hi
    have hlt : i < l.length := by omega
    have G : field_Field_Good.f [F] (rd l (i : Int)) = some (decide (rd l (i : Int) < F.p)) := rfl
    have hr := rd_at hlt
    rw [List.drop_eq_getElem_cons hlt, allB_cons, ← hr]
    refine stepE ⟨_, fun k => by simp only [dft_Good.l0]; rw [if_pos (by omega), if_pos (by omega), if_pos (by omega), wrap_succ (by omega)], evB G ?_⟩
    by_cases c : rd l (i : Int) < F.p
    · rw [decide_eq_true c, Bool.true_and]
      exact evP rfl (ih (i + 1) (by omega))
    · rw [decide_eq_false c, Bool.false_and]
      exact evN (by decide) (Ev.now _)
theorem good_ev {F : Fld} {l : List Int} (hn : l.length ≤ 1000000) : Ev (fun k => dft_Good.f k [F] l) (allB F.p l) := by
  have h := good_l0 (F := F) hn l.length 0 (by omega)
  rw [List.drop_zero] at h
  exact Ev.congr (fun k => by unfold dft_Good.f; rw [if_neg (by simp)]; rfl) h
theorem rgood_l0 {p : Int} {l : List Int} (hn : l.length ≤ 1000000) (d : Nat) : ∀ i : Nat, i + d = l.length → Ev (fun k => epicycleref11_Good.l0 k p l (l.length : Int) (i : Int)) (allB p (l.drop i)) := by
  induction d with
  | zero =>
    intro i hi
    refine stepE ⟨_, fun k => by simp only [epicycleref11_Good.l0]; rw [if_neg (by omega)], evR (Ev.now _) ?_⟩
    rw [List.drop_eq_nil_of_le (by omega), allB_nil]
  | succ d ih =>
    intro i hi
    have hlt : i < l.length := by omega
    have hr := rd_at hlt
    rw [List.drop_eq_getElem_cons hlt, allB_cons, ← hr]
    refine stepE ⟨_, fun k => by simp only [epicycleref11_Good.l0]; rw [if_pos (by omega), if_pos (by omega), if_pos (by omega), wrap_succ (by omega)], ?_⟩
    by_cases c : rd l (i : Int) < p
    · rw [decide_eq_true c, Bool.true_and]
      exact evN (by omega) (ih (i + 1) (by omega))
    · rw [decide_eq_false c, Bool.false_and]
      exact evP (by omega) (Ev.now _)
theorem rgood_ev {p : Int} {l : List Int} (hn : l.length ≤ 1000000) : Ev (fun k => epicycleref11_Good.f k p l) (allB p l) := by
  have h := rgood_l0 (p := p) hn l.length 0 (by omega)
  rw [List.drop_zero] at h
  exact Ev.congr (fun k => rfl) h
theorem scale_l0 {L : List Fld} {c : Int} {T : Int → Int} {l : List Int} (hn : l.length ≤ 1000000) (hT : ∀ x ∈ l, field_Field_Times.f L c x = some (T x)) (d : Nat) : ∀ (i : Nat) (y : List Int), i + d = l.length → y.length = l.length →
    Ev (fun k => dft_Scale.l0 k L c y l (l.length : Int) (i : Int)) (y.take i ++ (l.drop i).map T) := by
  induction d with
  | zero =>
    intro i y hi hy
    exact stepE ⟨_, fun k => by simp only [dft_Scale.l0]; rw [if_neg (by omega)], evR (Ev.now _) (by rw [List.drop_eq_nil_of_le (by omega), List.map_nil, List.append_nil, List.take_of_length_le (by omega)])⟩
  | succ d ih =>
    intro i y hi hy
    have hlt : i < l.length := by omega
    have G := hT l[i] (List.getElem_mem hlt)
    have hr := rd_at hlt
    have e : (y.set i (T l[i])).take (i + 1) ++ (l.drop (i + 1)).map T = y.take i ++ (l.drop i).map T := by
      rw [take_set1 _ (by omega), List.drop_eq_getElem_cons hlt, List.map_cons, List.append_assoc]
      rfl
    have IH := ih (i + 1) (y.set i (T l[i])) (by omega) (by rw [List.length_set]; exact hy)
    rw [e] at IH
    have hy2 : (i : Int) < (y.length : Int) := by omega
    refine stepE ⟨_, fun k => by simp only [dft_Scale.l0]; rw [if_pos (by omega), if_pos (by omega), if_pos (by omega), wrap_succ (by omega), Int.toNat_natCast, hr], ?_⟩
    refine evB G ?_
    exact evP hy2 IH
theorem scale_ev {F : Fld} (hg : GoodFld F) {l : List Int} (hn : l.length ≤ 1000000) (hu : ∀ x ∈ l, U x) : Ev (fun k => dft_Scale.f k [F] l) (l.map fun x => invF F.p (l.length : Int) * x % F.p) := by
  have wn : IntKind.u64.wrap (l.length : Int) = l.length := wu64_id _ (by omega) (by omega)
  have I := field_Field_Inv.at_ (F := F) (l := []) (a1 := (l.length : Int)) ⟨by omega, by omega⟩
  have Li := field_Field_Lift.at_ (F := F) (l := []) (hg.uInv (l.length : Int))
  have S := scale_l0 (L := [F]) (c := mIn F.p (invF F.p l.length)) (T := fun x => invF F.p l.length * x % F.p) hn (fun x hx => by
    rw [field_Field_Times.at_ ⟨show U (mIn F.p (invF F.p l.length)) from hg.uE _, hu x hx⟩, mul_in hg.m]) l.length 0 (List.replicate l.length 0) (by omega) List.length_replicate
  rw [List.take_zero, List.nil_append, List.drop_zero] at S
  refine Ev.congr (fun k => rfl) (evB (by rw [wn]; exact I) (evB Li (evP (by omega) (evP (by omega) (Ev.congr (fun k => ?_) S)))))
  rw [Int.toNat_natCast]
  rfl
theorem roots {F : Fld} (hg : GoodFld F) {n : Nat} (n1 : 1 ≤ n) (hd : (F.p - 1) % (n : Int) = 0) (inv : Bool) : Roots F n (trootI F n inv) (trootI F n (!inv)) := by
  have hlo := hg.lo
  have one := (hg.inv (hg.root_ne (n := (n : Int)) (by omega) hd)).2.1
  refine ⟨hg, n1, ?_, fun k => troot_ord hg (by omega) hd inv k, fun k => troot_ord hg (by omega) hd (!inv) k, ?_⟩
  · have := Int.le_of_dvd (show 0 < F.p - 1 by omega) (Int.dvd_of_emod_eq_zero hd)
    omega
  · cases inv with
    | false => show rootI F n * invF F.p (rootI F n) % F.p = 1; rw [Int.mul_comm]; exact one
    | true => exact one
noncomputable def cO (F : Fld) (n : Nat) (inv : Bool) : Int := if inv = true then invF F.p (n : Int) else 1
noncomputable def runL (F : Fld) (l : List Int) (inv : Bool) : List Int := (List.range l.length).map fun i => cO F l.length inv * dftA (trootI F l.length inv) (fun t => rd l (t : Int)) l.length i % F.p
theorem runL_len (F : Fld) (l : List Int) (inv : Bool) : (runL F l inv).length = l.length := by unfold runL; rw [List.length_map, List.length_range]
theorem runL_at {F : Fld} {l : List Int} {inv : Bool} {i : Nat} (h : i < l.length) : rd (runL F l inv) (i : Int) = cO F l.length inv * dftA (trootI F l.length inv) (fun t => rd l (t : Int)) l.length i % F.p := rd_map_range h
structure FitL (F : Fld) (l : List Int) : Prop where
  pos : 1 ≤ l.length
  top : l.length ≤ 1024
  div : (F.p - 1) % (l.length : Int) = 0
  res : ∀ x ∈ l, 0 ≤ x ∧ x < F.p
theorem FitL.u {F : Fld} {l : List Int} (hg : GoodFld F) (h : FitL F l) : ∀ x ∈ l, U x := fun x hx => by
  have := h.res x hx
  have := hg.hi
  unfold U; omega
theorem FitL.all {F : Fld} {l : List Int} (h : FitL F l) : allB F.p l = true := decide_eq_true fun x hx => (h.res x hx).2
theorem len_I {l : List Int} (h : l.length ≤ 1000000) : I64 (l.length : Int) := ⟨by omega, by omega⟩
theorem rsum_l0 {F : Fld} (hg : GoodFld F) {l : List Int} {n : Nat} (hn : l.length = n) (n1 : 1 ≤ n) (n2 : n ≤ 1024) (hu : ∀ x ∈ l, U x) {w : Int} {tab : List Int} (ht : tab.length = n) (hT : ∀ j, j < n → rd tab (j : Int) = w ^ j % F.p) (hw : ∀ a, w ^ a % F.p = w ^ (a % n) % F.p) {i : Nat} (hi : i < n) (d : Nat) : ∀ j : Nat, j + d = n →
    Ev (fun k => epicycleref11_Sum.l0 k F.p tab l (i : Int) (dftA w (fun t => rd l (t : Int)) j i % F.p) l (l.length : Int) (j : Int)) (dftA w (fun t => rd l (t : Int)) n i % F.p) := by
  induction d with
  | zero =>
    intro j hj
    obtain rfl : j = n := by omega
    exact stepE ⟨_, fun k => by simp only [epicycleref11_Sum.l0]; rw [if_neg (by omega)], Ev.now _⟩
  | succ d ih =>
    intro j hj
    have hjn : j < n := by omega
    have p1 : (j : Int) < (l.length : Int) := by omega
    have p2 : (0 : Int) ≤ (j : Int) := Int.natCast_nonneg _
    have ws : wrap64 ((j : Int) + 1) = ((j + 1 : Nat) : Int) := wrap_succ (by omega)
    have n0 : ¬ (l.length : Int) = 0 := by omega
    have IH := ih (j + 1) (by omega)
    have hq : i * j % n < n := Nat.mod_lt _ (by omega)
    have hij : i * j ≤ 1048576 := Nat.le_trans (Nat.mul_le_mul (show i ≤ 1024 by omega) (show j ≤ 1024 by omega)) (by decide)
    have ut := hu _ (rd_mem (l := l) (i := j) (by omega))
    have em : Int.tmod (wrap64 ((i : Int) * (j : Int))) (l.length : Int) = ((i * j % n : Nat) : Int) := by
      clear ih hT hw hu
      generalize hm : i * j = m at *
      rw [← Int.natCast_mul, hm, w64_id _ (by omega) (by omega), tmod_pos (Int.natCast_nonneg _), hn]
      rfl
    have M := ref02_Mul_ev ut (hg.uE (w ^ (i * j % n))) hg.uP hg.ne
    rw [← hT _ hq] at M
    have A := ref02_Add_eq (hg.uE (dftA w (fun t => rd l (t : Int)) j i)) (hg.uE (rd l (j : Int) * rd tab ((i * j % n : Nat) : Int))) hg.uP hg.ne
    have ev : (dftA w (fun t => rd l (t : Int)) j i % F.p + rd l (j : Int) * rd tab ((i * j % n : Nat) : Int) % F.p) % F.p = dftA w (fun t => rd l (t : Int)) (j + 1) i % F.p := by
      have e1 : dftA w (fun t => rd l (t : Int)) (j + 1) i = dftA w (fun t => rd l (t : Int)) j i + w ^ (i * j) * rd l (j : Int) := rfl
      rw [e1]
      exact add_cong (Int.emod_emod _ _) (by rw [Int.emod_emod, hT _ hq, ← hw, emod_mul_r, Int.mul_comm])
    rw [ev] at A
    have q0 : (0 : Int) ≤ ((i * j % n : Nat) : Int) := Int.natCast_nonneg _
    have q1 : ((i * j % n : Nat) : Int) < (tab.length : Int) := by rw [ht]; exact Int.ofNat_lt.2 hq
    refine stepE ⟨_, fun k => by simp only [epicycleref11_Sum.l0]; rw [if_pos p1, if_pos p2, if_pos p1, if_neg n0, em, if_pos q0, if_pos q1, ws], ?_⟩
    exact Ev.bind M (evB A IH)
theorem rrun_l0 {F : Fld} (hg : GoodFld F) {l : List Int} (h : FitL F l) (inv : Bool) (d : Nat) : ∀ i : Nat, i + d = l.length →
    Ev (fun k => epicycleref11_Run.l0 k F.p l inv (powL F.p (trootI F l.length inv) l.length) ((runL F l inv).take i) (l.length : Int) (i : Int)) (runL F l inv) := by
  have h1 := h.pos
  have h2 := h.top
  have lr := runL_len F l inv
  have R := roots hg h1 h.div inv
  have hn0 : (l.length : Int) % F.p ≠ 0 := R.n_ne
  induction d with
  | zero =>
    intro i hi
    exact stepE ⟨_, fun k => by simp only [epicycleref11_Run.l0]; rw [if_neg (by omega)], evR (Ev.now _) (List.take_of_length_le (by omega))⟩
  | succ d ih =>
    intro i hi
    have hlt : i < l.length := by omega
    have S0 := rsum_l0 hg (l := l) rfl h1 h2 (h.u hg) (powL_len F.p (trootI F l.length inv) l.length) (fun j hj => rd_powL hj) R.expo hlt l.length 0 (by omega)
    have S : Ev (fun k => epicycleref11_Sum.f k F.p (powL F.p (trootI F l.length inv) l.length) l (i : Int)) (dftA (trootI F l.length inv) (fun t => rd l (t : Int)) l.length i % F.p) := by
      refine Ev.congr (fun k => ?_) S0
      unfold epicycleref11_Sum.f dftA
      rw [show sumN (fun j => trootI F l.length inv ^ (i * j) * rd l (j : Int)) 0 = 0 from rfl, Int.zero_emod]
      rfl
    have IH := ih (i + 1) (by omega)
    have et : (runL F l inv).take (i + 1) = (runL F l inv).take i ++ [rd (runL F l inv) (i : Int)] := by rw [List.take_succ_eq_append_getElem (by omega), rd_at (by omega)]
    rw [et, runL_at hlt] at IH
    have lt : ((runL F l inv).take i).length < 17592186044416 := by rw [List.length_take]; omega
    refine stepE ⟨_, fun k => by simp only [epicycleref11_Run.l0]; rw [if_pos (by omega), wrap_succ (by omega)], Ev.bind S ?_⟩
    cases inv with
    | false =>
      refine evN (by decide) (evP lt ?_)
      rw [show cO F l.length false = 1 from rfl, Int.one_mul] at IH
      exact IH
    | true =>
      have wn : IntKind.u64.wrap (l.length : Int) = l.length := wu64_id _ (by omega) (by omega)
      have hlo := hg.lo
      have hhi := hg.hi
      have w2 : IntKind.u64.wrap (F.p - 2) = F.p - 2 := wu64_id _ (by omega) (by omega)
      have P := ref02_Pow_ev (a := (l.length : Int)) ⟨by omega, by omega⟩ (e := F.p - 2) ⟨by omega, by omega⟩ hg.uP hg.ne
      rw [← (hg.inv hn0).1] at P
      have I : Ev (fun k => epicycleref06_Inv.f k (IntKind.u64.wrap (l.length : Int)) F.p) (invF F.p (l.length : Int)) := by
        rw [wn]
        refine Ev.congr (fun k => by unfold epicycleref06_Inv.f; rw [w2]) (Ev.bind P (Ev.now _))
      have M := ref02_Mul_ev (hg.uE (dftA (trootI F l.length true) (fun t => rd l (t : Int)) l.length i)) (hg.uInv (l.length : Int)) hg.uP hg.ne
      rw [emod_mul_l, Int.mul_comm] at M
      exact evP rfl (Ev.bind I (Ev.bind M (evP lt IH)))
theorem rrun_ev {F : Fld} (hg : GoodFld F) {l : List Int} (h : FitL F l) (inv : Bool) : Ev (fun k => epicycleref11_Run.f k F.p F.g l inv) (runL F l inv) := by
  have h1 := h.pos
  have h2 := h.top
  have R := rroot_ev hg (len_I (l := l) (by omega)) inv
  have e : trootS F (l.length : Int) inv = (trootI F l.length inv, 0) := by unfold trootS; rw [if_neg (by omega), if_neg (by omega), if_pos h.div]
  rw [e] at R
  have T := rtable_ev hg (troot_U hg (l.length : Int) inv) (n := l.length) (by omega)
  have L0 := rrun_l0 hg h inv l.length 0 (by omega)
  rw [List.take_zero] at L0
  exact Ev.congr (fun k => rfl) (Ev.bind R (Ev.bind T L0))
theorem list_ext {a b : List Int} (hl : a.length = b.length) (h : ∀ i, i < b.length → rd a (i : Int) = rd b (i : Int)) : a = b := by
  refine List.ext_getElem hl fun i h1 h2 => ?_
  have := h i h2
  rwa [rd_at h1, rd_at h2] at this
end Go.Proofs.YtndkmnjbjlfeaaaGreat.D11
end
section
namespace Go.Proofs.YtndkmnjbjlfeaaaGreat.XM
open Go.RowKit Go.Proofs.YtndkmnjbjlfeaaaGreat.Given Go.Proofs.YtndkmnjbjlfeaaaGreat.Row05 Go.Proofs.YtndkmnjbjlfeaaaGreat.XS Go.Proofs.YtndkmnjbjlfeaaaGreat.XT Go.Proofs.YtndkmnjbjlfeaaaGreat.XR Go.Proofs.YtndkmnjbjlfeaaaGreat.F06 Go.Proofs.YtndkmnjbjlfeaaaGreat.XK Go.Proofs.YtndkmnjbjlfeaaaGreat.XW Go.Proofs.YtndkmnjbjlfeaaaGreat.XG Go.Proofs.YtndkmnjbjlfeaaaGreatW.PrintWords Go.Proofs.YtndkmnjbjlfeaaaGreatW.PrintLast Go.Proofs.YtndkmnjbjlfeaaaGreatW.PrintMore
attribute [local go_sem] max2_int min2_int max_two min_two max_three min_three max_four min_four
set_option linter.unusedVariables false
set_option linter.unusedSimpArgs false
mutual
noncomputable def digits_Size.l0 : Nat → Int → Bool → List Int → Int → Int → Option (Int × Int)
 | 0, _, _, _, _, _ => none
 | k + 1, x4, x5, x11, x12, x13 => if x13 < x12 then (if 0 ≤ x13 then (if x13 < (x11.length : Int) then (if (rd x11 x13) < 2 then (some (0, 1)) else (if x5 = true then (digits_Size.j1 k x4 x5 (rd x11 x13) x11 x12 x13 true) else (if x4 = 0 then (none) else (digits_Size.j1 k x4 x5 (rd x11 x13) x11 x12 x13 (decide ((rd x11 x13) > (wrap64 (Int.tdiv (4096 : Int) x4)))))))) else (none)) else (none)) else (if x5 = true then (some (0, 13)) else (some (x4, 0)))
noncomputable def digits_Size.j1 : Nat → Int → Bool → Int → List Int → Int → Int → Bool → Option (Int × Int)
 | 0, _, _, _, _, _, _, _ => none
 | k + 1, x4, x5, x7, x11, x12, x13, x25 => if x25 = true then (digits_Size.l0 k x4 true x11 x12 (wrap64 (x13 + 1))) else (digits_Size.l0 k (wrap64 (x4 * x7)) x5 x11 x12 (wrap64 (x13 + 1)))
end
noncomputable def digits_Size.f (k : Nat) (l0 : List Int) : Option (Int × Int) := if (l0.length : Int) > 12 then (some (0, 1)) else (digits_Size.l0 k 1 false l0 (l0.length : Int) 0)
set_option maxHeartbeats 8000000 in
set_option maxRecDepth 100000 in
theorem digits_Size.calls (k : Nat) (A0 : Option Addr) (c0 : Nat) (l0 : List Int) (r1 : Int) (r2 : Int) (w : World) (hr0 : Kd.C (Kd.int .i64) w A0 l0.length l0) (hc0 : l0.length ≤ c0) (h : digits_Size.f k l0 = some (r1, r2)) :
  Calls Tryz.prog 104 #[.slice A0 l0.length c0] w fun e w' => e = .returned (.tuple #[.int .i64 r1, .int .i64 r2]) ∧ Drawn0 w w' := by
 have HR0 := Aside0.mk hr0
 have HC0 := Aside0.mk hc0
 clear hr0 hc0
 have H := h; unfold digits_Size.f at H
 clear h
 by_cases c2 : (l0.length : Int) > 12
 ·rw [if_pos c2] at H
  have c2b0 := decide_eq_true c2
  have c2b1 : decide (12 < l0.length) = true := decide_eq_true (by omega)
  clear c2
  simp only [Option.some.injEq, Prod.mk.injEq] at H
  obtain ⟨rfl, rfl⟩ := H
  go_enter Tryz.func104, Tryz.ntmps104
  go_wp2
  go_ret2
  exact ⟨eq_, dw_⟩
 ·rw [if_neg c2] at H
  have c2b0 := decide_eq_false c2
  have c2b1 : decide (12 < l0.length) = false := decide_eq_false (by omega)
  clear c2
  have H' := Aside0.mk H
  clear H
  go_enter Tryz.func104, Tryz.ntmps104
  go_wp2
  go_loopg [4, 5, 13] k (fun kq v4 v5 v13 w' => ∃ (x4_1 : Int) (x5_1 : Bool) (x13_1 : Int), v4 = .int .i64 x4_1 ∧ v5 = .bool x5_1 ∧ v13 = .int .i64 x13_1 ∧ Aside0 (digits_Size.l0 kq x4_1 x5_1 l0 (l0.length : Int) x13_1 = some (r1, r2)) ∧ Aside0 (kq ≤ k) ∧ Drawn0 w w')
  case atStart => exact ⟨(1), (false), (0), eq_, eq_, eq_, H', ⟨Nat.le_refl _⟩, dw_⟩
  case round =>
   clear H'
   obtain ⟨x4_1, x5_1, x13_1, rfl, rfl, rfl, HA, HK1, ⟨m1, rfl⟩⟩ := hrel
   cases gk with
   | zero => exact absurd HA.out (by simp [digits_Size.l0])
   | succ k1 =>
    have H := HA.out
    clear HA
    simp only [digits_Size.l0] at H
    by_cases c3 : x13_1 < (l0.length : Int)
    ·rw [if_pos c3] at H
     have c3b0 := decide_eq_true c3
     clear c3
     by_cases c4 : 0 ≤ x13_1
     ·rw [if_pos c4] at H
      have c4b0 := decide_eq_true c4
      clear c4
      by_cases c5 : x13_1 < (l0.length : Int)
      ·rw [if_pos c5] at H
       have c5b0 := decide_eq_true c5
       clear c5
       by_cases c6 : (rd l0 x13_1) < 2
       ·rw [if_pos c6] at H
        have c6b0 := decide_eq_true c6
        clear c6
        simp only [Option.some.injEq, Prod.mk.injEq] at H
        obtain ⟨rfl, rfl⟩ := H
        have p101 : 0 ≤ (x13_1 : Int) := of_decide_eq_true (by assumption)
        have q101 : x13_1 < (l0.length : Int) := of_decide_eq_true (by assumption)
        obtain ⟨ad101, e101, hx101_0⟩ := Kd.at_int HR0.out x13_1 p101 q101
        cases e101
        replace p101 := eq_true p101
        replace q101 := eq_true q101
        go_wp2
        go_ret2
        exact ⟨eq_, dw_⟩
       ·rw [if_neg c6] at H
        have c6b0 := decide_eq_false c6
        clear c6
        have HC7 := Aside0.mk H
        clear H
        have p101 : 0 ≤ (x13_1 : Int) := of_decide_eq_true (by assumption)
        have q101 : x13_1 < (l0.length : Int) := of_decide_eq_true (by assumption)
        obtain ⟨ad101, e101, hx101_0⟩ := Kd.at_int HR0.out x13_1 p101 q101
        cases e101
        replace p101 := eq_true p101
        replace q101 := eq_true q101
        go_upto_region 9 with (fail)
        go_cut [25] (fun v25 wc => ∃ (kq : Nat) (x25_6 : Bool), v25 = .bool x25_6 ∧ Aside0 (digits_Size.j1 kq x4_1 x5_1 (rd l0 x13_1) l0 (l0.length : Int) x13_1 x25_6 = some (r1, r2)) ∧ Aside0 (kq ≤ k1) ∧ Drawn0 w wc)
        case first =>
         have H := HC7.out
         clear HC7
         by_cases c8 : x5_1 = true
         ·subst c8
          have H1 := H; rw [if_pos rfl] at H1
          clear H
          have H := H1
          clear H1
          have H' := Aside0.mk H
          clear H
          go_wp2
          go_meet
          case rel => exact ⟨_, (true), eq_, H', ⟨by have := HK1.out; first | omega | exact Nat.le_refl _⟩, dw_⟩
         ·replace c8 := Bool.eq_false_iff.mpr c8
          subst c8
          have H1 := H; rw [if_neg (show ¬ (false = true) by decide)] at H1
          clear H
          have H := H1
          clear H1
          by_cases c9 : x4_1 = 0
          ·rw [if_pos c9] at H
           exact absurd H (by simp)
          ·rw [if_neg c9] at H
           have c9b0 := beq_eq_false_iff_ne.mpr c9
           have c9b1 := bne_iff_ne.mpr c9
           (first | rw [c9b0] | (simp only [i64_w, i32_w]; rw [c9b0]) | skip)
           have H' := Aside0.mk H
           clear H
           go_wp2
           go_meet
           case rel => exact ⟨_, (decide ((rd l0 x13_1) > (wrap64 (Int.tdiv (4096 : Int) x4_1)))), eq_, H', ⟨by have := HK1.out; first | omega | exact Nat.le_refl _⟩, dw_⟩
        case rest =>
         clear HC7
         try clear hx1
         try clear hx101_0
         obtain ⟨kq, x25_6, rfl, HA, HJ6, ⟨mc6, rfl⟩⟩ := hcut
         cases kq with
         | zero => exact absurd HA.out (by simp [digits_Size.j1])
         | succ kj6 =>
          have H := HA.out
          clear HA
          simp only [digits_Size.j1] at H
          by_cases c10 : x25_6 = true
          ·subst c10
           have H1 := H; rw [if_pos rfl] at H1
           clear H
           have H := H1
           clear H1
           have H' := Aside0.mk H
           clear H
           go_wp2
           go_roundg kj6
           case measure => have := HK1.out; have := HJ6.out; omega
           case rel => exact ⟨(x4_1), (true), (wrap64 (x13_1 + 1)), eq_, eq_, eq_, H', ⟨by have := HK1.out; have := HJ6.out; omega⟩, dw_⟩
          ·replace c10 := Bool.eq_false_iff.mpr c10
           subst c10
           have H1 := H; rw [if_neg (show ¬ (false = true) by decide)] at H1
           clear H
           have H := H1
           clear H1
           have H' := Aside0.mk H
           clear H
           go_wp2
           go_roundg kj6
           case measure => have := HK1.out; have := HJ6.out; omega
           case rel => exact ⟨(wrap64 (x4_1 * (rd l0 x13_1))), (x5_1), (wrap64 (x13_1 + 1)), eq_, eq_, eq_, H', ⟨by have := HK1.out; have := HJ6.out; omega⟩, dw_⟩
      ·rw [if_neg c5] at H
       exact absurd H (by simp)
     ·rw [if_neg c4] at H
      exact absurd H (by simp)
    ·rw [if_neg c3] at H
     have c3b0 := decide_eq_false c3
     clear c3
     by_cases c11 : x5_1 = true
     ·subst c11
      have H1 := H; rw [if_pos rfl] at H1
      clear H
      have H := H1
      clear H1
      simp only [Option.some.injEq, Prod.mk.injEq] at H
      obtain ⟨rfl, rfl⟩ := H
      go_wp2
      go_ret2
      exact ⟨eq_, dw_⟩
     ·replace c11 := Bool.eq_false_iff.mpr c11
      subst c11
      have H1 := H; rw [if_neg (show ¬ (false = true) by decide)] at H1
      clear H
      have H := H1
      clear H1
      simp only [Option.some.injEq, Prod.mk.injEq] at H
      obtain ⟨rfl, rfl⟩ := H
      go_wp2
      go_ret2
      exact ⟨eq_, dw_⟩
noncomputable def digits_turn.l0 : Nat → Int → Int → List Int → Int → Int → Option (Int)
 | 0, _, _, _, _, _ => none
 | k + 1, x1, x5, x8, x9, x10 => if x10 < x9 then (if 0 ≤ x10 then (if x10 < (x8.length : Int) then (if (rd x8 x10) = 0 then (none) else (digits_turn.l0 k (wrap64 (Int.tdiv x1 (rd x8 x10))) (wrap64 ((wrap64 (x5 * (rd x8 x10))) + (Int.tmod x1 (rd x8 x10)))) x8 x9 (wrap64 (x10 + 1)))) else (none)) else (none)) else (some x5)
noncomputable def digits_turn.f (k : Nat) (l0 : List Int) (a1 : Int) : Option (Int) := digits_turn.l0 k a1 0 l0 (l0.length : Int) 0
set_option maxHeartbeats 8000000 in
set_option maxRecDepth 100000 in
theorem digits_turn.calls (k : Nat) (A0 : Option Addr) (c0 : Nat) (l0 : List Int) (a1 : Int) (r : Int) (w : World) (hr0 : Kd.C (Kd.int .i64) w A0 l0.length l0) (hc0 : l0.length ≤ c0) (h : digits_turn.f k l0 a1 = some r) :
  Calls Tryz.prog 105 #[.slice A0 l0.length c0, .int .i64 a1] w fun e w' => e = .returned (.int .i64 r) ∧ Drawn0 w w' := by
 have HR0 := Aside0.mk hr0
 have HC0 := Aside0.mk hc0
 clear hr0 hc0
 have H := h; unfold digits_turn.f at H
 clear h
 have H' := Aside0.mk H
 clear H
 go_enter Tryz.func105, Tryz.ntmps105
 go_wp2
 go_loopg [1, 5, 10] k (fun kq v1 v5 v10 w' => ∃ (x1_1 : Int) (x5_1 : Int) (x10_1 : Int), v1 = .int .i64 x1_1 ∧ v5 = .int .i64 x5_1 ∧ v10 = .int .i64 x10_1 ∧ Aside0 (digits_turn.l0 kq x1_1 x5_1 l0 (l0.length : Int) x10_1 = some r) ∧ Aside0 (kq ≤ k) ∧ Drawn0 w w')
 case atStart => exact ⟨(a1), (0), (0), eq_, eq_, eq_, H', ⟨Nat.le_refl _⟩, dw_⟩
 case round =>
  clear H'
  obtain ⟨x1_1, x5_1, x10_1, rfl, rfl, rfl, HA, HK1, ⟨m1, rfl⟩⟩ := hrel
  cases gk with
  | zero => exact absurd HA.out (by simp [digits_turn.l0])
  | succ k1 =>
   have H := HA.out
   clear HA
   simp only [digits_turn.l0] at H
   by_cases c3 : x10_1 < (l0.length : Int)
   ·rw [if_pos c3] at H
    have c3b0 := decide_eq_true c3
    clear c3
    by_cases c4 : 0 ≤ x10_1
    ·rw [if_pos c4] at H
     have c4b0 := decide_eq_true c4
     clear c4
     by_cases c5 : x10_1 < (l0.length : Int)
     ·rw [if_pos c5] at H
      have c5b0 := decide_eq_true c5
      clear c5
      by_cases c6 : (rd l0 x10_1) = 0
      ·rw [if_pos c6] at H
       exact absurd H (by simp)
      ·rw [if_neg c6] at H
       have c6b0 := beq_eq_false_iff_ne.mpr c6
       have c6b1 := bne_iff_ne.mpr c6
       have H' := Aside0.mk H
       clear H
       have p102 : 0 ≤ (x10_1 : Int) := of_decide_eq_true (by assumption)
       have q102 : x10_1 < (l0.length : Int) := of_decide_eq_true (by assumption)
       obtain ⟨ad102, e102, hx102_0⟩ := Kd.at_int HR0.out x10_1 p102 q102
       cases e102
       replace p102 := eq_true p102
       replace q102 := eq_true q102
       go_wp2
       go_roundg k1
       case measure => have := HK1.out; omega
       case rel => exact ⟨(wrap64 (Int.tdiv x1_1 (rd l0 x10_1))), (wrap64 ((wrap64 (x5_1 * (rd l0 x10_1))) + (Int.tmod x1_1 (rd l0 x10_1)))), (wrap64 (x10_1 + 1)), eq_, eq_, eq_, H', ⟨by have := HK1.out; omega⟩, dw_⟩
     ·rw [if_neg c5] at H
      exact absurd H (by simp)
    ·rw [if_neg c4] at H
     exact absurd H (by simp)
   ·rw [if_neg c3] at H
    have c3b0 := decide_eq_false c3
    clear c3
    obtain rfl := Option.some.inj H
    go_wp2
    go_ret
    exact ⟨eq_, dw_⟩
noncomputable def digits_Order.l0 : Nat → List Int → List Int → List Int → Int → Int → Option (List Int × Int)
 | 0, _, _, _, _, _ => none
 | k + 1, x1, x8, x25, x26, x27 => if x27 < x26 then (if 0 ≤ x27 then (if x27 < (x25.length : Int) then ((digits_turn.f k x1 x27).bind fun t109 => (if 0 ≤ t109 then (if t109 < (x8.length : Int) then (digits_Order.l0 k x1 (x8.set (t109 : Int).toNat (rd x25 x27)) x25 x26 (wrap64 (x27 + 1))) else (none)) else (none))) else (none)) else (none)) else (some (x8, 0))
noncomputable def digits_Order.f (k : Nat) (l0 : List Int) (l1 : List Int) : Option (List Int × Int) := (digits_Size.f k l1).bind fun bt103 => (if bt103.2 = 0 then (if (l0.length : Int) = bt103.1 then (if 0 ≤ bt103.1 then (if (bt103.1 : Int).toNat ≤ 35184372088832 then (digits_Order.l0 k l1 (List.replicate (bt103.1 : Int).toNat 0) l0 (l0.length : Int) 0) else (none)) else (none)) else (some (([] : List Int), 1))) else (some (([] : List Int), bt103.2)))
set_option maxHeartbeats 8000000 in
set_option maxRecDepth 100000 in
theorem digits_Order.calls (k : Nat) (A0 : Option Addr) (c0 : Nat) (l0 : List Int) (A1 : Option Addr) (c1 : Nat) (l1 : List Int) (r1 : List Int) (r2 : Int) (w : World) (hr0 : Kd.C (Kd.int .u64) w A0 l0.length l0) (hc0 : l0.length ≤ c0) (hr1 : Kd.C (Kd.int .i64) w A1 l1.length l1) (hc1 : l1.length ≤ c1) (h : digits_Order.f k l0 l1 = some (r1, r2)) :
  Calls Tryz.prog 67 #[.slice A0 l0.length c0, .slice A1 l1.length c1] w fun e w' => ∃ v0_ : Value, e = .returned (.tuple #[v0_, .int .i64 r2]) ∧ Kd.R (Kd.int .u64) 22 w' w.heap.size (fun _ => True) v0_ r1 ∧ Below w.heap.size w w' := by
 have HR0 := Aside0.mk hr0
 have HC0 := Aside0.mk hc0
 clear hr0 hc0
 have HR1 := Aside0.mk hr1
 have HC1 := Aside0.mk hc1
 clear hr1 hc1
 have HB := Aside0.mk (Below.refl w.heap.size w)
 have H := h; unfold digits_Order.f at H
 clear h
 replace H := Option.bind_eq_some_iff.mp H
 obtain ⟨⟨t103, t104⟩, A30, H⟩ := H
 (try dsimp only at H)
 have A3 := Aside0.mk A30
 clear A30
 by_cases c4 : t104 = 0
 ·rw [if_pos c4] at H
  have c4b0 := beq_iff_eq.mpr c4
  have c4b1 := bne_eq_false_iff_eq.mpr c4
  clear c4
  by_cases c5 : (l0.length : Int) = t103
  ·rw [if_pos c5] at H
   have c5b0 := beq_iff_eq.mpr c5
   have c5b1 := bne_eq_false_iff_eq.mpr c5
   clear c5
   by_cases c6 : 0 ≤ t103
   ·rw [if_pos c6] at H
    have c6b0 := eq_true c6
    have c6b1 := decide_eq_true c6
    clear c6
    by_cases c7 : (t103 : Int).toNat ≤ 35184372088832
    ·rw [if_pos c7] at H
     have c7b0 := eq_true c7
     have c7b1 := decide_eq_true c7
     clear c7
     obtain ⟨y105, hy105⟩ : ∃ y_ : List Int, y_ = (List.replicate (t103 : Int).toNat 0) := ⟨_, rfl⟩
     replace H : (digits_Order.l0 k l1 y105 l0 (l0.length : Int) 0) = some (r1, r2) := by first | (rw [hy105]; with_reducible exact H) | (have H2_ := (Option.bind_some _ _).symm.trans H; rw [hy105]; with_reducible exact H2_) | (have H2_ := (Option.bind_some _ _).symm.trans H; with_reducible exact H2_) | with_reducible exact H | (rw [hy105]; exact H) | exact H
     have Ny105 := Aside0.mk hy105
     clear hy105
     have H' := Aside0.mk H
     clear H
     go_enter Tryz.func67, Tryz.ntmps67
     go_wp2_with (first | (refine gl_ 13 Tryz.func104 #[.slice A1 l1.length c1] rfl ?_; (with_reducible refine (digits_Size.calls k _ _ l1 t103 t104 _ ?side1 ?side2 A3.out).mono ?_); (case side1 => exact cal_ HR1.out); (case side2 => exact HC1.out); rintro e w' ⟨rfl, ⟨nd, rfl⟩⟩; refine ⟨_, rfl, ?_⟩) | ((with_reducible refine gate_dst (N := 24) rfl ?_); refine Kd.R_make (Kd.int .u64) _ 22 rfl (N := 24) rfl 26 _ _ rfl t103 rfl rfl Tryz.underlying26 (.int .u64 0) 8 info22 rfl (by decide) (by omega) 0 (ok := fun _ => True) (okp := fun _ => True) rfl (fun _ hk => hk) trivial (of_decide_eq_true (by assumption)) (Nat.le_trans (Nat.mul_le_mul_right _ (of_decide_eq_true (by assumption) : t103.toNat ≤ 35184372088832)) (by omega)) (Below.refl _ _) (Nat.le_refl _) ?_; intro v106 w8 ho9 hb hg_ hnew_; clear hg_ hnew_; (first | rw [← Ny105.out] at ho9 | (simp only [Int.reduceToNat] at ho9; rw [← Ny105.out] at ho9)); have n0_ := Aside0.mk (Kd.R_lower ho9 (below_size bel_)); have n1_ := Aside0.mk (below_step bel_ hb); clear HB; have HO107 := n0_; have HB := n1_; clear n0_ n1_; clear hb ho9))
     go_loopg [27] k (fun kq v27 w' => ∃ (x8_1 : List Int) (x27_1 : Int), v27 = .int .i64 x27_1 ∧ Aside0 (digits_Order.l0 kq l1 x8_1 l0 (l0.length : Int) x27_1 = some (r1, r2)) ∧ Aside0 (kq ≤ k) ∧ Aside0 (Kd.R (Kd.int .u64) 22 w' w.heap.size (fun _ => True) v106 x8_1) ∧ Aside0 (Below w.heap.size w w'))
     case atStart => exact ⟨(y105), (0), eq_, H', ⟨Nat.le_refl _⟩, ⟨rel_ HO107.out⟩, ⟨bel_⟩⟩
     case round =>
      clear H'
      obtain ⟨x8_1, x27_1, rfl, HA, HK1, HO_8, HB⟩ := hrel
      cases gk with
      | zero => exact absurd HA.out (by simp [digits_Order.l0])
      | succ k1 =>
       have H := HA.out
       clear HA
       simp only [digits_Order.l0] at H
       by_cases c10 : x27_1 < (l0.length : Int)
       ·rw [if_pos c10] at H
        have c10b0 := decide_eq_true c10
        clear c10
        by_cases c11 : 0 ≤ x27_1
        ·rw [if_pos c11] at H
         have c11b0 := decide_eq_true c11
         clear c11
         by_cases c12 : x27_1 < (l0.length : Int)
         ·rw [if_pos c12] at H
          have c12b0 := decide_eq_true c12
          clear c12
          replace H := Option.bind_eq_some_iff.mp H
          obtain ⟨t109, A130, H⟩ := H
          (try dsimp only at H)
          have A13 := Aside0.mk A130
          clear A130
          by_cases c14 : 0 ≤ t109
          ·rw [if_pos c14] at H
           have c14b0 := decide_eq_true c14
           clear c14
           by_cases c15 : t109 < (x8_1.length : Int)
           ·rw [if_pos c15] at H
            have c15b0 := decide_eq_true c15
            clear c15
            obtain ⟨y110, hy110⟩ : ∃ y_ : List Int, y_ = (x8_1.set (t109 : Int).toNat (rd l0 x27_1)) := ⟨_, rfl⟩
            replace H : (digits_Order.l0 k1 l1 y110 l0 (l0.length : Int) (wrap64 (x27_1 + 1))) = some (r1, r2) := by first | (rw [hy110]; with_reducible exact H) | (have H2_ := (Option.bind_some _ _).symm.trans H; rw [hy110]; with_reducible exact H2_) | (have H2_ := (Option.bind_some _ _).symm.trans H; with_reducible exact H2_) | with_reducible exact H | (rw [hy110]; exact H) | exact H
            have Ny110 := Aside0.mk hy110
            clear hy110
            have H' := Aside0.mk H
            clear H
            have p108 : 0 ≤ (x27_1 : Int) := of_decide_eq_true (by assumption)
            have q108 : x27_1 < (l0.length : Int) := of_decide_eq_true (by assumption)
            obtain ⟨ad108, e108, hx108_0⟩ := Kd.at_int HR0.out x27_1 p108 q108
            cases e108
            replace hx108_0 := hb_ HB.out hx108_0
            replace p108 := eq_true p108
            replace q108 := eq_true q108
            go_wp2_with (first | (refine gl_ 35 Tryz.func105 #[.slice A1 l1.length c1, .int .i64 x27_1] rfl ?_; (with_reducible refine (digits_turn.calls k1 _ _ l1 x27_1 t109 _ ?side1 ?side2 A13.out).mono ?_); (case side1 => exact cal_ (Kd.C_below HR1.out HB.out)); (case side2 => exact HC1.out); rintro e w' ⟨rfl, ⟨nd, rfl⟩⟩; refine ⟨_, rfl, ?_⟩; (try (rw [drewN_self wr]; generalize hq_ : World.drewN wr _ = wr; have n0_ : Aside0 (Kd.R (Kd.int .u64) 22 wr w.heap.size (fun _ => True) v106 x8_1) := ⟨by rw [← hq_]; exact (rel_ HO_8.out)⟩; have n1_ : Aside0 (Below w.heap.size w wr) := ⟨by rw [← hq_]; exact bel_⟩; clear HO_8 HB hq_; have HO_8 := n0_; have HB := n1_; clear n0_ n1_)); have p16 : 0 ≤ (t109 : Int) := of_decide_eq_true (by assumption); have q16 : (t109 : Int) < ((x8_1.length : Int) : Int) := of_decide_eq_true (by assumption); obtain ⟨go16, co16, eo16, gb16, gl16, cl16, HG16⟩ := Kd.R_form HO_8.out (by omega); (first | cases eo16 | (injection eo16 with ea_ en_ ec_; (first | subst ea_ | (injection ea_ with ea_; subst ea_)); subst ec_; clear en_)); have GB16 := Aside0.mk gb16; have GG16 := Aside0.mk HG16; clear gb16 gl16 HG16; obtain ⟨hx16_0, hf16_0⟩ := Kd.R_celln 0 HO_8.out (t109 : Int) p16 q16; replace p16 := eq_true p16; replace q16 := eq_true q16; obtain ⟨hy17_, hz17_⟩ := Kd.R_celln 0 HO_8.out (t109 : Int) (of_decide_eq_true (by assumption)) (of_decide_eq_true (by assumption)); have HP17 := Kd.R_putg HO_8.out (t109 : Int) (rd l0 x27_1)) | ((with_reducible refine gate_store (t := 22) (p := 37) rfl ?_); refine store_event (t := 22) (p := 37) (v := ?vo_w18) (w1 := (wr.setCell ⟨go16, (t109 : Int).toNat, none⟩ (.int .u64 (rd l0 x27_1)))) ?hg ?ho ?hn ?hr ?_; (case ho => rfl); (case hg => rfl); (case hn => rfl); (case hr => first | (go_simp; done) | (go_simp; rfl)); intro w18 hw; have hg : wr.grownBy w18 (some go16) := (by rw [hw]; exact HP17.2); have hp_ : Kd.R (Kd.int .u64) 22 w18 w.heap.size (fun _ => True) (.slice (some ⟨go16, 0, none⟩) x8_1.length co16) y110 := (by rw [hw, Ny110.out]; exact HP17.1); clear HP17; have n0_ := Aside0.mk (hp_); have n1_ := Aside0.mk ((by rw [hw]; exact below_set (HB.out) GB16.out : Below w.heap.size w w18)); clear HO_8; clear HB; have HO_8 := n0_; have HB := n1_; clear n0_ n1_; clear hg hw hp_))
            go_roundg k1
            case measure => have := HK1.out; omega
            case rel => exact ⟨(y110), (wrap64 (x27_1 + 1)), eq_, H', ⟨by have := HK1.out; omega⟩, ⟨rel_ HO_8.out⟩, ⟨bel_⟩⟩
           ·rw [if_neg c15] at H
            exact absurd H (by simp)
          ·rw [if_neg c14] at H
           exact absurd H (by simp)
         ·rw [if_neg c12] at H
          exact absurd H (by simp)
        ·rw [if_neg c11] at H
         exact absurd H (by simp)
       ·rw [if_neg c10] at H
        have c10b0 := decide_eq_false c10
        clear c10
        simp only [Option.some.injEq, Prod.mk.injEq] at H
        obtain ⟨rfl, rfl⟩ := H
        go_wp2
        go_ret2
        exact ⟨_, eq_, rel_ HO_8.out, bel_⟩
    ·rw [if_neg c7] at H
     exact absurd H (by simp)
   ·rw [if_neg c6] at H
    exact absurd H (by simp)
  ·rw [if_neg c5] at H
   have c5b0 := beq_eq_false_iff_ne.mpr c5
   have c5b1 := bne_iff_ne.mpr c5
   simp only [Option.some.injEq, Prod.mk.injEq] at H
   obtain ⟨rfl, rfl⟩ := H
   go_enter Tryz.func67, Tryz.ntmps67
   go_wp2_with (first | (refine gl_ 13 Tryz.func104 #[.slice A1 l1.length c1] rfl ?_; (with_reducible refine (digits_Size.calls k _ _ l1 t103 t104 _ ?side1 ?side2 A3.out).mono ?_); (case side1 => exact cal_ HR1.out); (case side2 => exact HC1.out); rintro e w' ⟨rfl, ⟨nd, rfl⟩⟩; refine ⟨_, rfl, ?_⟩))
   go_ret2
   exact ⟨_, eq_, nl_, bel_⟩
 ·rw [if_neg c4] at H
  have c4b0 := beq_eq_false_iff_ne.mpr c4
  have c4b1 := bne_iff_ne.mpr c4
  simp only [Option.some.injEq, Prod.mk.injEq] at H
  obtain ⟨rfl, rfl⟩ := H
  go_enter Tryz.func67, Tryz.ntmps67
  go_wp2_with (first | (refine gl_ 13 Tryz.func104 #[.slice A1 l1.length c1] rfl ?_; (with_reducible refine (digits_Size.calls k _ _ l1 t103 t104 _ ?side1 ?side2 A3.out).mono ?_); (case side1 => exact cal_ HR1.out); (case side2 => exact HC1.out); rintro e w' ⟨rfl, ⟨nd, rfl⟩⟩; refine ⟨_, rfl, ?_⟩))
  go_ret2
  exact ⟨_, eq_, nl_, bel_⟩
noncomputable def mixed_stage_lift.f (l0_0 : List (Fld)) (l0_1 : List Int) (a0_2 : Int) (a0_3 : Int) (a1 : Int) : Option (Int) := if (wrap64 (a0_2 * a0_3)) = 0 then (none) else (if (l0_1.length : Int) = 0 then (none) else (if 0 ≤ (Int.tmod (wrap64 (a1 * (wrap64 (Int.tdiv (l0_1.length : Int) (wrap64 (a0_2 * a0_3)))))) (l0_1.length : Int)) then (if (Int.tmod (wrap64 (a1 * (wrap64 (Int.tdiv (l0_1.length : Int) (wrap64 (a0_2 * a0_3)))))) (l0_1.length : Int)) < (l0_1.length : Int) then (some (rd l0_1 (Int.tmod (wrap64 (a1 * (wrap64 (Int.tdiv (l0_1.length : Int) (wrap64 (a0_2 * a0_3)))))) (l0_1.length : Int)))) else (none)) else (none)))
set_option maxHeartbeats 8000000 in
set_option maxRecDepth 100000 in
theorem mixed_stage_lift.calls (A0_0 : Option Addr) (c0_0 : Nat) (l0_0 : List (Fld)) (A0_1 : Option Addr) (c0_1 : Nat) (l0_1 : List Int) (a0_2 : Int) (a0_3 : Int) (a1 : Int) (r : Int) (w : World) (hr0_0 : Kd.C kFld w A0_0 l0_0.length l0_0) (hc0_0 : l0_0.length ≤ c0_0) (hr0_1 : Kd.C (Kd.int .u64) w A0_1 l0_1.length l0_1) (hc0_1 : l0_1.length ≤ c0_1) (h : mixed_stage_lift.f l0_0 l0_1 a0_2 a0_3 a1 = some r) :
  Calls Tryz.prog 133 #[.agg #[toPtr (.slice A0_0 l0_0.length c0_0), .slice A0_1 l0_1.length c0_1, .int .i64 a0_2, .int .i64 a0_3], .int .i64 a1] w fun e w' => e = .returned (.int .u64 r) ∧ Below w.heap.size w w' := by
 have hu104 := Tryz.underlying104
 have HR0_0 := Aside0.mk hr0_0
 have HC0_0 := Aside0.mk hc0_0
 clear hr0_0 hc0_0
 have HR0_1 := Aside0.mk hr0_1
 have HC0_1 := Aside0.mk hc0_1
 clear hr0_1 hc0_1
 have HB := Aside0.mk (Below.refl w.heap.size w)
 have H := h; unfold mixed_stage_lift.f at H
 clear h
 by_cases c3 : (wrap64 (a0_2 * a0_3)) = 0
 ·rw [if_pos c3] at H
  exact absurd H (by simp)
 ·rw [if_neg c3] at H
  have c3b0 := beq_eq_false_iff_ne.mpr c3
  have c3b1 := bne_iff_ne.mpr c3
  by_cases c4 : (l0_1.length : Int) = 0
  ·rw [if_pos c4] at H
   exact absurd H (by simp)
  ·rw [if_neg c4] at H
   have c4b0 := beq_eq_false_iff_ne.mpr c4
   have c4b1 := bne_iff_ne.mpr c4
   have c4b2 : ¬ (l0_1 = []) := fun h_ => c4 (by rw [h_]; rfl)
   obtain ⟨ji5, hji5⟩ : ∃ j_ : Int, (Int.tmod (wrap64 (a1 * (wrap64 (Int.tdiv (l0_1.length : Int) (wrap64 (a0_2 * a0_3)))))) (l0_1.length : Int)) = j_ := ⟨_, rfl⟩
   (first | rw [hji5] at H | simp only [hji5] at H)
   (try have hji5q_ : (Int.tmod (wrap64 (a1 * (wrap64 ((l0_1.length : Int) / (wrap64 (a0_2 * a0_3)))))) (l0_1.length : Int)) = ji5 := by rw [← Int.tdiv_eq_ediv_of_nonneg (by omega)]; exact hji5)
   have hji5v : (Int.tmod (IntKind.i64.wrap (a1 * (IntKind.i64.wrap (Int.tdiv (l0_1.length : Int) (IntKind.i64.wrap (a0_2 * a0_3)))))) (l0_1.length : Int)) = ji5 := by simp only [i64_w]; exact hji5
   by_cases c6 : 0 ≤ (ji5)
   ·rw [if_pos c6] at H
    have c6b0 := decide_eq_true c6
    clear c6
    by_cases c7 : (ji5) < (l0_1.length : Int)
    ·rw [if_pos c7] at H
     have c7b0 := decide_eq_true c7
     clear c7
     obtain rfl := Option.some.inj H
     go_enter Tryz.func133, Tryz.ntmps133
     go_wp2_with (first | ((with_reducible refine gate_dst (N := 2) rfl ?_); refine be_ 2 #[toPtr (.slice A0_0 l0_0.length c0_0), .slice A0_1 l0_1.length c0_1, .int .i64 a0_2, .int .i64 a0_3] 104 ?_; intro gb111 hg w8 hbox hb; have n0_ := Aside0.mk (below_step bel_ hb); have n1_ := Aside0.mk (hbox); have n2_ := Aside0.mk ((by rw [hg]; exact (below_size bel_) : w.heap.size ≤ gb111)); have n3_ := Aside0.mk ((by rw [hg]; exact (below_size bel_) : w.heap.size ≤ gb111)); clear HB; have HB := n0_; have BK111 := n1_; have GW111 := n2_; have GE111 := n3_; clear n0_ n1_ n2_ n3_; clear hb hbox hg; have hcz9_0 := bc_ BK111.out 0 rfl; have hcz9_1 := bc_ BK111.out 1 rfl; have hcz9_2 := bc_ BK111.out 2 rfl; have hcz9_3 := bc_ BK111.out 3 rfl; have hfz9_0 := blk_frozen BK111.out 0; have hfz9_1 := blk_frozen BK111.out 1; have hfz9_2 := blk_frozen BK111.out 2; have hfz9_3 := blk_frozen BK111.out 3; have p112 : 0 ≤ ((ji5) : Int) := of_decide_eq_true (by assumption); have q112 : (ji5) < (l0_1.length : Int) := of_decide_eq_true (by assumption); obtain ⟨ad112, e112, hx112_0⟩ := Kd.at_int HR0_1.out (ji5) p112 q112; cases e112; replace hx112_0 := hb_ HB.out hx112_0; replace p112 := eq_true p112; replace q112 := eq_true q112))
     repeat (go_quiet (first | ((with_reducible refine gate_dst (N := 2) rfl ?_); refine be_ 2 #[toPtr (.slice A0_0 l0_0.length c0_0), .slice A0_1 l0_1.length c0_1, .int .i64 a0_2, .int .i64 a0_3] 104 ?_; intro gb111 hg w8 hbox hb; have n0_ := Aside0.mk (below_step bel_ hb); have n1_ := Aside0.mk (hbox); have n2_ := Aside0.mk ((by rw [hg]; exact (below_size bel_) : w.heap.size ≤ gb111)); have n3_ := Aside0.mk ((by rw [hg]; exact (below_size bel_) : w.heap.size ≤ gb111)); clear HB; have HB := n0_; have BK111 := n1_; have GW111 := n2_; have GE111 := n3_; clear n0_ n1_ n2_ n3_; clear hb hbox hg; have hcz9_0 := bc_ BK111.out 0 rfl; have hcz9_1 := bc_ BK111.out 1 rfl; have hcz9_2 := bc_ BK111.out 2 rfl; have hcz9_3 := bc_ BK111.out 3 rfl; have hfz9_0 := blk_frozen BK111.out 0; have hfz9_1 := blk_frozen BK111.out 1; have hfz9_2 := blk_frozen BK111.out 2; have hfz9_3 := blk_frozen BK111.out 3; have p112 : 0 ≤ ((ji5) : Int) := of_decide_eq_true (by assumption); have q112 : (ji5) < (l0_1.length : Int) := of_decide_eq_true (by assumption); obtain ⟨ad112, e112, hx112_0⟩ := Kd.at_int HR0_1.out (ji5) p112 q112; cases e112; replace hx112_0 := hb_ HB.out hx112_0; replace p112 := eq_true p112; replace q112 := eq_true q112)); try go_wp2_with (first | ((with_reducible refine gate_dst (N := 2) rfl ?_); refine be_ 2 #[toPtr (.slice A0_0 l0_0.length c0_0), .slice A0_1 l0_1.length c0_1, .int .i64 a0_2, .int .i64 a0_3] 104 ?_; intro gb111 hg w8 hbox hb; have n0_ := Aside0.mk (below_step bel_ hb); have n1_ := Aside0.mk (hbox); have n2_ := Aside0.mk ((by rw [hg]; exact (below_size bel_) : w.heap.size ≤ gb111)); have n3_ := Aside0.mk ((by rw [hg]; exact (below_size bel_) : w.heap.size ≤ gb111)); clear HB; have HB := n0_; have BK111 := n1_; have GW111 := n2_; have GE111 := n3_; clear n0_ n1_ n2_ n3_; clear hb hbox hg; have hcz9_0 := bc_ BK111.out 0 rfl; have hcz9_1 := bc_ BK111.out 1 rfl; have hcz9_2 := bc_ BK111.out 2 rfl; have hcz9_3 := bc_ BK111.out 3 rfl; have hfz9_0 := blk_frozen BK111.out 0; have hfz9_1 := blk_frozen BK111.out 1; have hfz9_2 := blk_frozen BK111.out 2; have hfz9_3 := blk_frozen BK111.out 3; have p112 : 0 ≤ ((ji5) : Int) := of_decide_eq_true (by assumption); have q112 : (ji5) < (l0_1.length : Int) := of_decide_eq_true (by assumption); obtain ⟨ad112, e112, hx112_0⟩ := Kd.at_int HR0_1.out (ji5) p112 q112; cases e112; replace hx112_0 := hb_ HB.out hx112_0; replace p112 := eq_true p112; replace q112 := eq_true q112)))
     go_ret
     exact ⟨by first | rfl | (simp [errW_none, errW_some] <;> rfl) | (simp only [← hji5]; first | rfl | (simp [errW_none, errW_some] <;> rfl)) | (simp [*, errW_none, errW_some] <;> rfl), bel_⟩
    ·rw [if_neg c7] at H
     exact absurd H (by simp)
   ·rw [if_neg c6] at H
    exact absurd H (by simp)
end Go.Proofs.YtndkmnjbjlfeaaaGreat.XM
end
section
namespace Go.Proofs.YtndkmnjbjlfeaaaGreat.XM
open Go.RowKit Go.Proofs.YtndkmnjbjlfeaaaGreat.Given Go.Proofs.YtndkmnjbjlfeaaaGreat.Row05 Go.Proofs.YtndkmnjbjlfeaaaGreat.XS Go.Proofs.YtndkmnjbjlfeaaaGreat.XT Go.Proofs.YtndkmnjbjlfeaaaGreat.XR Go.Proofs.YtndkmnjbjlfeaaaGreat.F06 Go.Proofs.YtndkmnjbjlfeaaaGreat.XK Go.Proofs.YtndkmnjbjlfeaaaGreat.XW Go.Proofs.YtndkmnjbjlfeaaaGreat.XG Go.Proofs.YtndkmnjbjlfeaaaGreatW.PrintWords Go.Proofs.YtndkmnjbjlfeaaaGreatW.PrintLast Go.Proofs.YtndkmnjbjlfeaaaGreatW.PrintMore
attribute [local go_sem] max2_int min2_int max_two min_two max_three min_three max_four min_four   -- for this text's walks alone
set_option linter.unusedVariables false
set_option linter.unusedSimpArgs false
mutual
noncomputable def mixed_stage_oneW.l0 (s9 n9 : Nat) : Nat → List Int → Int → List Int → Int → Int → List (Fld) → List Int → Int → Int → Option (List Int)
 | 0, _, _, _, _, _, _, _, _, _ => none
 | k + 1, x1, x2, x6, x16, x17, x114000, x114001, x114002, x114003 => if x17 < x16 then ((mixed_stage_lift.f x114000 x114001 x114002 x114003 (wrap64 (x17 * x2))).bind fun t117 => (if 0 ≤ (wrap64 ((wrap64 (x17 * x114003)) + x2)) then (if (wrap64 ((wrap64 (x17 * x114003)) + x2)) < (n9 : Int) then ((field_Field_Times.f x114000 t117 (rdW s9 x1 (wrap64 ((wrap64 (x17 * x114003)) + x2)))).bind fun t119 => (if 0 ≤ x17 then (if x17 < (x6.length : Int) then (mixed_stage_oneW.l0 s9 n9 k x1 x2 (x6.set (x17 : Int).toNat t119) x16 (wrap64 (x17 + 1)) x114000 x114001 x114002 x114003) else (none)) else (none))) else (none)) else (none))) else (mixed_stage_oneW.l1 s9 n9 k x1 x2 x6 (x6.length : Int) 0 x114000 x114001 x114002 x114003)
noncomputable def mixed_stage_oneW.l1 (s9 n9 : Nat) : Nat → List Int → Int → List Int → Int → Int → List (Fld) → List Int → Int → Int → Option (List Int)
 | 0, _, _, _, _, _, _, _, _, _ => none
 | k + 1, x1, x2, x6, x42, x43, x114000, x114001, x114002, x114003 => if x43 < x42 then (mixed_stage_oneW.l2 s9 n9 k x1 x2 x6 x43 0 x42 x43 x6 (x6.length : Int) 0 x114000 x114001 x114002 x114003) else (some x1)
noncomputable def mixed_stage_oneW.l2 (s9 n9 : Nat) : Nat → List Int → Int → List Int → Int → Int → Int → Int → List Int → Int → Int → List (Fld) → List Int → Int → Int → Option (List Int)
 | 0, _, _, _, _, _, _, _, _, _, _, _, _, _, _ => none
 | k + 1, x1, x2, x6, x8, x9, x42, x43, x46, x47, x48, x114000, x114001, x114002, x114003 => if x48 < x47 then (if 0 ≤ x48 then (if x48 < (x46.length : Int) then ((mixed_stage_lift.f x114000 x114001 x114002 x114003 (wrap64 ((wrap64 (x48 * x8)) * x114003))).bind fun t123 => ((field_Field_Times.f x114000 t123 (rd x46 x48)).bind fun t124 => ((field_Field_Add.f x114000 x9 t124).bind fun t125 => (mixed_stage_oneW.l2 s9 n9 k x1 x2 x6 x8 t125 x42 x43 x46 x47 (wrap64 (x48 + 1)) x114000 x114001 x114002 x114003)))) else (none)) else (none)) else (if 0 ≤ (wrap64 ((wrap64 (x8 * x114003)) + x2)) then (if (wrap64 ((wrap64 (x8 * x114003)) + x2)) < (n9 : Int) then (mixed_stage_oneW.l1 s9 n9 k (x1.set (s9 + ((wrap64 ((wrap64 (x8 * x114003)) + x2)) : Int).toNat) x9) x2 x6 x42 (wrap64 (x43 + 1)) x114000 x114001 x114002 x114003) else (none)) else (none))
end
noncomputable def mixed_stage_oneW.f (s9 n9 : Nat) (k : Nat) (l0_0 : List (Fld)) (l0_1 : List Int) (a0_2 : Int) (a0_3 : Int) (l1 : List Int) (a2 : Int) : Option (List Int) := if 0 ≤ a0_2 then (if (a0_2 : Int).toNat ≤ 35184372088832 then ((some (List.replicate (a0_2 : Int).toNat 0 : List Int)).bind fun y114 => (mixed_stage_oneW.l0 s9 n9 k l1 a2 y114 (y114.length : Int) 0 l0_0 l0_1 a0_2 a0_3)) else (none)) else (none)
def mixed_stage_oneW.T5 : Bool × List (List Nat × List Nat) := (true, [([], []), ([], []), ([], []), ([2], [2]), ([], []), ([], []), ([], []), ([5, 6], [5, 6]), ([4, 7], [4, 7]), ([], []), ([], []), ([], []), ([11], [11]), ([10, 12], [10, 12]), ([], []), ([13, 14], [13, 14]), ([9, 15], [9, 15]), ([16], [16]), ([3, 8, 17, 8], [3, 8, 17]), ([0, 1, 0, 1, 2, 3, 4, 5, 6, 7, 8, 9, 10, 11, 12, 13, 14, 15, 16, 17, 18], [0, 1]), ([19, 18, 18, 0, 1, 2, 3, 4, 5, 6, 7, 8, 9, 10, 11, 12, 13, 14, 15, 16, 17, 18], [18, 19])])
def mixed_stage_oneW.B5 : List Nat := [0, 0, 0, 4, 0, 0, 0, 96, 240, 0, 0, 0, 2048, 7168, 0, 31744, 65024, 130560, 262140, 524287, 1048575]
theorem mixed_stage_oneW.tab5 : rtab .any (opsOf Tryz.f106 5) = mixed_stage_oneW.T5 := by kernel_rfl
theorem mixed_stage_oneW.bits5 : waitsOk mixed_stage_oneW.T5.2 mixed_stage_oneW.B5 = true := by kernel_rfl
def mixed_stage_oneW.T14 : Bool × List (List Nat × List Nat) := (true, [([], []), ([0], [0]), ([], []), ([], []), ([3], [3]), ([], []), ([], []), ([], []), ([6, 7], [6, 7]), ([], []), ([9], [9]), ([8, 10], [8, 10]), ([5, 11], [5, 11]), ([], []), ([4, 12, 13, 12], [4, 12, 13]), ([1, 2, 14, 14], [1, 2, 14]), ([15, 15, 0, 1, 2, 3, 4, 5, 6, 7, 8, 9, 10, 11, 12, 13, 14, 15], [2, 15])])
def mixed_stage_oneW.B14 : List Nat := [0, 1, 0, 0, 8, 0, 0, 0, 192, 0, 512, 1984, 4064, 0, 16376, 32767, 65535]
theorem mixed_stage_oneW.tab14 : rtab .any (opsOf Tryz.f106 14) = mixed_stage_oneW.T14 := by kernel_rfl
theorem mixed_stage_oneW.bits14 : waitsOk mixed_stage_oneW.T14.2 mixed_stage_oneW.B14 = true := by kernel_rfl
set_option maxHeartbeats 8000000 in
set_option maxRecDepth 100000 in
theorem mixed_stage_oneW.calls (k : Nat) (A0_0 : Option Addr) (c0_0 : Nat) (l0_0 : List (Fld)) (A0_1 : Option Addr) (c0_1 : Nat) (l0_1 : List Int) (a0_2 : Int) (a0_3 : Int) (P1_ : Nat → Prop) (g9 s9 n9 cp9 co9 : Nat) (l1 : List Int) (a2 : Int) (r : List Int) (w0 w : World) (hB : Below w0.heap.size w0 w) (hr0_0 : ∀ W_, Kept w W_ (fun k_ => P1_ k_) → Kd.C kFld W_ A0_0 l0_0.length l0_0) (hc0_0 : l0_0.length ≤ c0_0) (hr0_1 : ∀ W_, Kept w W_ (fun k_ => P1_ k_) → Kd.C (Kd.int .u64) W_ A0_1 l0_1.length l0_1) (hc0_1 : l0_1.length ≤ c0_1) (ho1 : Kd.R (Kd.int .u64) 22 w w0.heap.size P1_ (.slice (some ⟨g9, 0, none⟩) l1.length co9) l1) (hs9 : s9 + n9 ≤ l1.length) (h : mixed_stage_oneW.f s9 n9 k l0_0 l0_1 a0_2 a0_3 l1 a2 = some r) :
  Calls Tryz.prog 106 #[.agg #[toPtr (.slice A0_0 l0_0.length c0_0), .slice A0_1 l0_1.length c0_1, .int .i64 a0_2, .int .i64 a0_3], .slice (some ⟨g9, s9, none⟩) n9 cp9, .int .i64 a2] w fun e w' => e = .returned (.tuple #[]) ∧ Kd.R (Kd.int .u64) 22 w' w0.heap.size (fun k_ => (P1_ k_ ∨ w.heap.size ≤ k_)) (.slice (some ⟨g9, 0, none⟩) l1.length co9) r ∧ Below w0.heap.size w0 w' ∧ Kept w w' (fun k_ => P1_ k_) := by
 have hu104 := Tryz.underlying104
 have HS9 := Aside0.mk hs9
 clear hs9
 have HR0_0 := Aside0.mk hr0_0
 have HC0_0 := Aside0.mk hc0_0
 clear hr0_0 hc0_0
 have HR0_1 := Aside0.mk hr0_1
 have HC0_1 := Aside0.mk hc0_1
 clear hr0_1 hc0_1
 have HO1 := Aside0.mk (show Kd.R (Kd.int .u64) 22 w w0.heap.size (fun k_ => (P1_ k_ ∨ w.heap.size ≤ k_)) (.slice (some ⟨g9, 0, none⟩) l1.length co9) l1 from Kd.R_mono ho1 (fun k_ hk => (.inl hk)))
 have HK := Aside0.mk (Kept.refl w (fun k_ => P1_ k_))
 have HW0 := Aside0.mk hB.size
 have HB := Aside0.mk hB
 clear hB
 have H := h; unfold mixed_stage_oneW.f at H
 clear h
 by_cases c4 : 0 ≤ a0_2
 ·rw [if_pos c4] at H
  have c4b0 := eq_true c4
  have c4b1 := decide_eq_true c4
  clear c4
  by_cases c5 : (a0_2 : Int).toNat ≤ 35184372088832
  ·rw [if_pos c5] at H
   have c5b0 := eq_true c5
   have c5b1 := decide_eq_true c5
   clear c5
   obtain ⟨y114, hy114⟩ : ∃ y_ : List Int, y_ = (List.replicate (a0_2 : Int).toNat 0) := ⟨_, rfl⟩
   replace H : (mixed_stage_oneW.l0 s9 n9 k l1 a2 y114 (y114.length : Int) 0 l0_0 l0_1 a0_2 a0_3) = some r := by first | (rw [hy114]; with_reducible exact H) | (have H2_ := (Option.bind_some _ _).symm.trans H; rw [hy114]; with_reducible exact H2_) | (have H2_ := (Option.bind_some _ _).symm.trans H; with_reducible exact H2_) | with_reducible exact H | (rw [hy114]; exact H) | exact H
   have Ny114 := Aside0.mk hy114
   clear hy114
   have H' := Aside0.mk H
   clear H
   go_enter Tryz.func106, Tryz.ntmps106
   go_wp2_with (first | ((with_reducible refine gate_dst (N := 3) rfl ?_); refine be_ 3 #[toPtr (.slice A0_0 l0_0.length c0_0), .slice A0_1 l0_1.length c0_1, .int .i64 a0_2, .int .i64 a0_3] 104 ?_; intro gb113 hg w6 hbox hb; have n0_ := Aside0.mk (Kd.R_below (rel_ HO1.out) hb); have n1_ := Aside0.mk (Kept.below (S := (fun k_ => P1_ k_)) kp_ hb); have n2_ := Aside0.mk (below_step bel_ hb); have n3_ := Aside0.mk (hbox); have n4_ := Aside0.mk ((by rw [hg]; exact (by first | exact HK.out.1 | exact (show Kept w _ (fun k_ => P1_ k_) from kp_).1) : w.heap.size ≤ gb113)); have n5_ := Aside0.mk ((by rw [hg]; exact (below_size bel_) : w0.heap.size ≤ gb113)); clear HO1; clear HK; clear HB; have HO1 := n0_; have HK := n1_; have HB := n2_; have BK113 := n3_; have GW113 := n4_; have GE113 := n5_; clear n0_ n1_ n2_ n3_ n4_ n5_; clear hb hbox hg; have hcz7_0 := bc_ BK113.out 0 rfl; have hcz7_1 := bc_ BK113.out 1 rfl; have hcz7_2 := bc_ BK113.out 2 rfl; have hcz7_3 := bc_ BK113.out 3 rfl; have hfz7_0 := blk_frozen BK113.out 0; have hfz7_1 := blk_frozen BK113.out 1; have hfz7_2 := blk_frozen BK113.out 2; have hfz7_3 := blk_frozen BK113.out 3) | ((with_reducible refine gate_dst (N := 14) rfl ?_); refine Kd.R_make (Kd.int .u64) _ 22 rfl (N := 14) rfl 26 _ _ rfl a0_2 rfl rfl Tryz.underlying26 (.int .u64 0) 8 info22 rfl (by decide) (by omega) 0 (ok := fun _ => True) (okp := fun _ => True) rfl (fun _ hk => hk) trivial (of_decide_eq_true (by assumption)) (Nat.le_trans (Nat.mul_le_mul_right _ (of_decide_eq_true (by assumption) : a0_2.toNat ≤ 35184372088832)) (by omega)) (Below.refl _ _) (Nat.le_refl _) ?_; intro v115 w8 ho9 hb hg_ hnew_; clear hg_ hnew_; (first | rw [← Ny114.out] at ho9 | (simp only [Int.reduceToNat] at ho9; rw [← Ny114.out] at ho9)); have n0_ := Aside0.mk (Kd.R_elder' (rel_ HO1.out) (Kd.R_base ho9) hb); have n1_ := Aside0.mk (Kd.R_lower (Kd.R_new' (Kd.R_newM (M := fun k_ => (P1_ k_ ∨ w.heap.size ≤ k_)) ho9 (by first | exact HK.out.1 | exact (show Kept w _ (fun k_ => P1_ k_) from kp_).1) (fun k_ h_ => .inr h_)) (Kd.R_lt (rel_ HO1.out))) (below_size bel_)); have n2_ := Aside0.mk (blk_below BK113.out hb); have n3_ := Aside0.mk (Kept.below (S := (fun k_ => P1_ k_)) kp_ hb); have n4_ := Aside0.mk (below_step bel_ hb); clear HO1; clear BK113; clear HK; clear HB; have HO1 := n0_; have HO116 := n1_; have BK113 := n2_; have HK := n3_; have HB := n4_; clear n0_ n1_ n2_ n3_ n4_; clear hb ho9; obtain ⟨Ao10, co10, eo10⟩ := Kd.R_slice HO116.out; subst eo10))
   go_loopg [17] k (fun kq v17 w' => ∃ (x6_1 : List Int) (x17_1 : Int), v17 = .int .i64 x17_1 ∧ Aside0 (mixed_stage_oneW.l0 s9 n9 kq l1 a2 x6_1 (y114.length : Int) x17_1 l0_0 l0_1 a0_2 a0_3 = some r) ∧ Aside0 (kq ≤ k) ∧ Aside0 (Kd.R (Kd.int .u64) 22 w' w0.heap.size (fun k_ => (P1_ k_ ∨ w.heap.size ≤ k_) ∧ some k_ ≠ ((.slice Ao10 y114.length co10) : Value).ownBlock) (.slice (some ⟨g9, 0, none⟩) l1.length co9) l1) ∧ Aside0 (Kd.R (Kd.int .u64) 22 w' w0.heap.size (fun k_ => (P1_ k_ ∨ w.heap.size ≤ k_) ∧ some k_ ≠ ((.slice (some ⟨g9, 0, none⟩) l1.length co9) : Value).ownBlock) (.slice Ao10 y114.length co10) x6_1) ∧ Aside0 (w'.heap[gb113]? = some (.cells #[(toPtr (.slice A0_0 l0_0.length c0_0)), (.slice A0_1 l0_1.length c0_1), .int .i64 a0_2, .int .i64 a0_3] 104 (0, 0))) ∧ Aside0 (Kept w w' (fun k_ => P1_ k_)) ∧ Aside0 (Below w0.heap.size w0 w'))
   case atStart => exact ⟨(y114), (0), eq_, H', ⟨Nat.le_refl _⟩, ⟨rel_ HO1.out⟩, ⟨by (with_reducible repeat (first | apply Kd.R_alloc | apply Kd.R_drewN | apply Kd.R_drew)); exact Kd.R_mono HO116.out (fun _ hk => ⟨hk.1.1, hk.2⟩)⟩, ⟨blkx_ BK113.out⟩, ⟨kp_⟩, ⟨bel_⟩⟩
   case round =>
    clear H'
    obtain ⟨x6_1, x17_1, rfl, HA, HK1, HO_1, HO_6, BK113, HK, HB⟩ := hrel
    have hl6_1 := (Kd.R_reads' HO_6.out).1
    rw [hl6_1] at HO_6
    (try simp only [hl6_1])
    (try simp only [hl6_1] at BK113)
    (try simp only [hl6_1] at HO_1)
    cases gk with
    | zero => exact absurd HA.out (by simp [mixed_stage_oneW.l0])
    | succ k1 =>
     have H := HA.out
     clear HA
     simp only [mixed_stage_oneW.l0] at H
     by_cases c11 : x17_1 < (y114.length : Int)
     ·rw [if_pos c11] at H
      have c11b0 := decide_eq_true c11
      (try (have c11b0hl6_1 := c11b0; simp only [hl6_1] at c11b0hl6_1))
      clear c11
      replace H := Option.bind_eq_some_iff.mp H
      obtain ⟨t117, A120, H⟩ := H
      (try dsimp only at H)
      have A12 := Aside0.mk A120
      clear A120
      obtain ⟨ji13, hji13⟩ : ∃ j_ : Int, (wrap64 ((wrap64 (x17_1 * a0_3)) + a2)) = j_ := ⟨_, rfl⟩
      (first | rw [hji13] at H | simp only [hji13] at H)
      (try rw [hji13] at A12)
      have hji13v : (IntKind.i64.wrap ((IntKind.i64.wrap (x17_1 * a0_3)) + a2)) = ji13 := by simp only [i64_w]; exact hji13
      have hji13w : (IntKind.i64.wrap ((wrap64 (x17_1 * a0_3)) + a2)) = ji13 := (i64_w _).trans hji13
      by_cases c14 : 0 ≤ (ji13)
      ·rw [if_pos c14] at H
       have c14b0 := decide_eq_true c14
       clear c14
       by_cases c15 : (ji13) < (n9 : Int)
       ·rw [if_pos c15] at H
        have c15b0 := decide_eq_true c15
        (try (have c15b0hl6_1 := c15b0; simp only [hl6_1] at c15b0hl6_1))
        clear c15
        replace H := Option.bind_eq_some_iff.mp H
        obtain ⟨t119, A160, H⟩ := H
        (try dsimp only at H)
        have A16 := Aside0.mk A160
        clear A160
        by_cases c17 : 0 ≤ x17_1
        ·rw [if_pos c17] at H
         have c17b0 := decide_eq_true c17
         clear c17
         by_cases c18 : x17_1 < (x6_1.length : Int)
         ·rw [if_pos c18] at H
          have c18b0 := decide_eq_true c18
          (try (have c18b0hl6_1 := c18b0; simp only [hl6_1] at c18b0hl6_1))
          clear c18
          obtain ⟨y120, hy120⟩ : ∃ y_ : List Int, y_ = (x6_1.set (x17_1 : Int).toNat t119) := ⟨_, rfl⟩
          replace H : (mixed_stage_oneW.l0 s9 n9 k1 l1 a2 y120 (y114.length : Int) (wrap64 (x17_1 + 1)) l0_0 l0_1 a0_2 a0_3) = some r := by first | (rw [hy120]; with_reducible exact H) | (have H2_ := (Option.bind_some _ _).symm.trans H; rw [hy120]; with_reducible exact H2_) | (have H2_ := (Option.bind_some _ _).symm.trans H; with_reducible exact H2_) | with_reducible exact H | (rw [hy120]; exact H) | exact H
          have Ny120 := Aside0.mk hy120
          clear hy120
          have H' := Aside0.mk H
          clear H
          try go_wp2
          have n0_ := Aside0.mk (Kd.R_drew HO_1.out)
          have n1_ := Aside0.mk (Kd.R_drew HO_6.out)
          have n2_ := Aside0.mk (blk_drew BK113.out)
          have n3_ := Aside0.mk (Kept.drew HK.out)
          have n4_ := Aside0.mk (below_drew1 HB.out)
          clear HO_1
          clear HO_6
          clear BK113
          clear HK
          clear HB
          have HO_1 := n0_
          have HO_6 := n1_
          have BK113 := n2_
          have HK := n3_
          have HB := n4_
          clear n0_ n1_ n2_ n3_ n4_
          have p118 : 0 ≤ ((ji13) : Int) := of_decide_eq_true (by assumption)
          have q118 : (ji13) < (n9 : Int) := of_decide_eq_true (by assumption)
          have hx118_0 := (win_rd HO_1.out HS9.out (ji13) p118 q118).1
          replace p118 := eq_true p118
          replace q118 := eq_true q118
          refine start_ (n := 21) (S := fun w' => w'.cell? ⟨gb113, 0, none⟩ = some (toPtr (.slice A0_0 l0_0.length c0_0)) ∧ w'.cell? ⟨gb113, 1, none⟩ = some (.slice A0_1 l0_1.length c0_1) ∧ w'.cell? ⟨gb113, 2, none⟩ = some (.int .i64 a0_2) ∧ w'.cell? ⟨gb113, 3, none⟩ = some (.int .i64 a0_3) ∧ w'.cell? ⟨g9, s9 + ((ji13)).toNat, none⟩ = some (.int .u64 (rdW s9 l1 (ji13)))) (ds := [20]) #[false, false, false, false, false, false, false, false, false, false, false, false, false, false, false, false, false, false, false, false, false] (by kernel_rfl) rfl rfl ⟨(blk_cell BK113.out 0).trans rfl, (blk_cell BK113.out 1).trans rfl, (blk_cell BK113.out 2).trans rfl, (blk_cell BK113.out 3).trans rfl, hx118_0⟩ (fun hHeld => ?_); refine with_tabW mixed_stage_oneW.tab5 mixed_stage_oneW.bits5 (fun HT_ HW_ => ?_)
          generalize wr.drew = w20 at HO_1 HO_6 BK113 HK HB hx118_0 hHeld ⊢
          refine pT_ 0 20 HT_ rfl rfl ?_
          refine pT_ 1 21 HT_ rfl rfl ?_
          refine pT_ 2 22 HT_ rfl rfl ?_
          refine pT_ 5 25 HT_ rfl rfl ?_
          refine pT_ 6 26 HT_ rfl rfl ?_
          refine pT_ 7 27 HT_ rfl rfl ?_
          refine pT_ 9 29 HT_ rfl rfl ?_
          refine pT_ 10 30 HT_ rfl rfl ?_
          refine pT_ 11 31 HT_ rfl rfl ?_
          refine pT_ 14 34 HT_ rfl rfl ?_
          refine tS_ 3 23 (take_ofW HT_.out HW_.out (by kernel_rfl)) hHeld (by rintro w' ⟨s0, s1, s2, s3, s4⟩; go_simp; with_reducible rfl) rfl rfl ?_
          refine tS_ 4 24 (take_ofW HT_.out HW_.out (by kernel_rfl)) hHeld (by rintro w' ⟨s0, s1, s2, s3, s4⟩; go_simp; with_reducible rfl) rfl rfl ?_
          refine tS_ 12 32 (take_ofW HT_.out HW_.out (by kernel_rfl)) hHeld (by rintro w' ⟨s0, s1, s2, s3, s4⟩; go_simp; with_reducible rfl) rfl rfl ?_
          refine pT_ 13 33 HT_ rfl rfl ?_
          refine pT_ 15 35 HT_ rfl rfl ?_
          refine pT_ 16 36 HT_ rfl rfl ?_
          refine tS_ 17 37 (take_ofW HT_.out HW_.out (by kernel_rfl)) hHeld (by rintro w' ⟨s0, s1, s2, s3, s4⟩; go_simp; with_reducible rfl) rfl rfl ?_
          refine one_ (i := 8) (N := some 28) #[true, true, true, true, true, true, true, true, true, true, true, true, true, true, true, true, true, true, false, false, false] rfl rfl (one_of HT_.out (by kernel_rfl)) (by decide) (fun K hK => ?_)
          refine goes_ Tryz.func133 (by kernel_rfl) rfl #[.agg #[toPtr (.slice A0_0 l0_0.length c0_0), .slice A0_1 l0_1.length c0_1, .int .i64 a0_2, .int .i64 a0_3], .int .i64 (wrap64 (x17_1 * a2))] (by rfl) rfl rfl (by (try simp only [List.map_toArray, List.map_cons, List.map_nil]); first | done | (rw [hT_HR0_0] <;> rfl) | (rw [hT_HR0_0] <;> rfl) | rfl | (simp only [List.length_drop, List.length_take]; rfl)) ?_
          (try rw [← hT_HR0_0])
          with_reducible refine (mixed_stage_lift.calls _ _ l0_0 _ _ l0_1 a0_2 a0_3 (wrap64 (x17_1 * a2)) t117 _ ?side1 ?side2 ?side3 ?side4 A12.out).mono ?_
          (case side1 => exact Kd.C_kept_now HR0_0.out kp_)
          (case side2 => exact HC0_0.out)
          (case side3 => exact Kd.C_kept_now HR0_1.out kp_)
          (case side4 => exact HC0_1.out)
          rintro e w22 ⟨rfl, hb⟩
          have HS4_ := (hb.cell (World.block_lt_of_cell? _ _ (hHeld.2.2.2.2))).trans (hHeld.2.2.2.2)
          refine ⟨_, rfl, ?_⟩
          have n0_ := Aside0.mk (Kd.R_below (rel_ HO_1.out) hb)
          have n1_ := Aside0.mk (Kd.R_below (rel_ HO_6.out) hb)
          have n2_ := Aside0.mk (blk_below BK113.out hb)
          have n3_ := Aside0.mk (Kept.below (S := (fun k_ => P1_ k_)) kp_ hb)
          have n4_ := Aside0.mk (below_step bel_ hb)
          clear HO_1
          clear HO_6
          clear BK113
          clear HK
          clear HB
          have HO_1 := n0_
          have HO_6 := n1_
          have BK113 := n2_
          have HK := n3_
          have HB := n4_
          clear n0_ n1_ n2_ n3_ n4_
          (try clear hb)
          (try clear hb2)
          (try clear hk)
          (try clear hi)
          refine hK.out _ _ ⟨(blk_cell BK113.out 0).trans rfl, (blk_cell BK113.out 1).trans rfl, (blk_cell BK113.out 2).trans rfl, (blk_cell BK113.out 3).trans rfl, HS4_⟩ (fun hHeld => ?_)
          clear hK K
          refine nS_ ?_
          refine one_ (i := 18) (N := some 38) #[true, true, true, true, true, true, true, true, true, true, true, true, true, true, true, true, true, true, true, false, false] rfl rfl (one_of HT_.out (by kernel_rfl)) (by decide) (fun K hK => ?_)
          refine goes_ Tryz.func62 (by kernel_rfl) rfl #[toPtr (.slice A0_0 l0_0.length c0_0), .int .u64 t117, .int .u64 (rdW s9 l1 (ji13))] (by rfl) rfl rfl (by (try simp only [List.map_toArray, List.map_cons, List.map_nil]); first | done | (rw [hT_HR0_0] <;> rfl) | (rw [hT_HR0_0] <;> rfl) | (simp only [hji13]; rfl) | rfl | (simp only [List.length_drop, List.length_take]; rfl)) ?_
          (try rw [← hT_HR0_0])
          with_reducible refine (field_Field_Times.calls _ _ l0_0 t117 (rdW s9 l1 (ji13)) t119 _ ?side1 ?side2 A16.out).mono ?_
          (case side1 => exact Kd.C_kept_now HR0_0.out kp_)
          (case side2 => exact HC0_0.out)
          rintro e w' ⟨rfl, ⟨nd, rfl⟩⟩
          refine ⟨_, rfl, ?_⟩
          have p19 : 0 ≤ (x17_1 : Int) := of_decide_eq_true (by assumption)
          have q19 : (x17_1 : Int) < ((x6_1.length : Int) : Int) := of_decide_eq_true (by assumption)
          obtain ⟨go19, co19, eo19, gb19, gl19, cl19, HG19⟩ := Kd.R_form HO_6.out (by omega)
          (first | cases eo19 | (injection eo19 with ea_ en_ ec_; (first | subst ea_ | (injection ea_ with ea_; subst ea_)); subst ec_; clear en_))
          have GB19 := Aside0.mk gb19
          have GG19 := Aside0.mk HG19
          clear gb19 gl19 HG19
          have HMgo19 := Aside0.mk (show (P1_ go19 ∨ w.heap.size ≤ go19) from (HO_6.out.1 _ rfl).1)
          obtain ⟨hx19_0, hf19_0⟩ := Kd.R_celln 0 HO_6.out (x17_1 : Int) p19 q19
          replace p19 := eq_true p19
          replace q19 := eq_true q19
          have HP23 := Kd.R_putn HO_6.out (x17_1 : Int) t119
          rw [← Ny120.out] at HP23
          have HQ23 := Aside0.mk HP23
          clear HP23
          refine hK.out _ _ ⟨(blk_cell BK113.out 0).trans rfl, (blk_cell BK113.out 1).trans rfl, (blk_cell BK113.out 2).trans rfl, (blk_cell BK113.out 3).trans rfl, hHeld.2.2.2.2⟩ (fun hHeld => ?_)
          clear hK K
          refine nS_ ?_
          refine pT_ 19 39 HT_ rfl rfl ?_
          refine last_ (i := 20) (N := none) #[true, true, true, true, true, true, true, true, true, true, true, true, true, true, true, true, true, true, true, true, true] rfl rfl (one_of HT_.out (by kernel_rfl)) (by decide) (fun K hK => ?_)
          refine skip_ (w1 := ?_) (by rfl) rfl ?_ ?_
          rotate_left
          ·go_simp
           rfl
          refine hK.out _ _ ?_
          clear hK K
          refine done_ (done_of HT_.out (by kernel_rfl)) ?_
          try go_wp2
          (try simp only [← hl6_1])
          go_roundg k1
          case measure => have := HK1.out; omega
          case rel => exact ⟨(y120), (wrap64 (x17_1 + 1)), eq_, H', ⟨by have := HK1.out; omega⟩, ⟨by (try simp only [hl6_1]); (with_reducible repeat (first | apply Kd.R_alloc | apply Kd.R_drewN | apply Kd.R_drew)); exact Kd.R_mono (Kd.R_far (p := ⟨go19, (x17_1 : Int).toNat, none⟩) (Kd.R_mono HO_1.out (fun k_ hk => (⟨hk, fun e_ => hk.2 (by rw [e_]; rfl)⟩ : _ ∧ k_ ≠ go19))) (fun _ hk => hk.2) (.int .u64 t119)) (fun _ hk => ⟨hk.1.1, hk.1.2⟩)⟩, ⟨by (try simp only [hl6_1]); (with_reducible repeat (first | apply Kd.R_alloc | apply Kd.R_drewN | apply Kd.R_drew)); exact HQ23.out⟩, ⟨by (try simp only [hl6_1]); (with_reducible repeat (first | refine blk_drewN ?_ _ | refine blk_drew ?_ | refine blk_alloc ?_ _)); refine blk_far ?_ (by have h_ := Kd.R_ne HO_6.out BK113.out (by decide); intro e_; exact h_ (by rw [e_]; rfl)) _; (with_reducible repeat (first | refine blk_drewN ?_ _ | refine blk_drew ?_ | refine blk_alloc ?_ _)); exact BK113.out⟩, ⟨by repeat (first | (with_reducible first | exact HK.out | apply Kept.alloc | apply Kept.drewN | apply Kept.drew | refine Kept.setCell ?_ HMgo19.out _ | refine Kept.setCell ?_ (.inr GW113.out) _) | exact HK.out)⟩, ⟨by repeat (first | (with_reducible first | exact HB.out | apply below_alloc | apply pw_below_drewN | apply below_drew1 | refine below_set ?_ GB19.out | refine below_set ?_ GE113.out) | exact HB.out)⟩⟩
         ·rw [if_neg c18] at H
          exact absurd H (by simp)
        ·rw [if_neg c17] at H
         exact absurd H (by simp)
       ·rw [if_neg c15] at H
        exact absurd H (by simp)
      ·rw [if_neg c14] at H
       exact absurd H (by simp)
     ·rw [if_neg c11] at H
      have c11b0 := decide_eq_false c11
      (try (have c11b0hl6_1 := c11b0; simp only [hl6_1] at c11b0hl6_1))
      clear c11
      have H' := Aside0.mk H
      clear H
      go_wp2
      go_loopg [43] k1 (fun kq v43 w' => ∃ (x1_2 : List Int) (x43_2 : Int), v43 = .int .i64 x43_2 ∧ Aside0 (mixed_stage_oneW.l1 s9 n9 kq x1_2 a2 x6_1 (x6_1.length : Int) x43_2 l0_0 l0_1 a0_2 a0_3 = some r) ∧ Aside0 (kq ≤ k1) ∧ Aside0 (Kd.R (Kd.int .u64) 22 w' w0.heap.size (fun k_ => (P1_ k_ ∨ w.heap.size ≤ k_) ∧ some k_ ≠ ((.slice Ao10 x6_1.length co10) : Value).ownBlock) (.slice (some ⟨g9, 0, none⟩) l1.length co9) x1_2) ∧ Aside0 (Kd.R (Kd.int .u64) 22 w' w0.heap.size (fun k_ => (P1_ k_ ∨ w.heap.size ≤ k_) ∧ some k_ ≠ ((.slice (some ⟨g9, 0, none⟩) l1.length co9) : Value).ownBlock) (.slice Ao10 x6_1.length co10) x6_1) ∧ Aside0 (w'.heap[gb113]? = some (.cells #[(toPtr (.slice A0_0 l0_0.length c0_0)), (.slice A0_1 l0_1.length c0_1), .int .i64 a0_2, .int .i64 a0_3] 104 (0, 0))) ∧ Aside0 (Kept w w' (fun k_ => P1_ k_)) ∧ Aside0 (Below w0.heap.size w0 w'))
      case atStart => exact ⟨(l1), (0), eq_, H', ⟨Nat.le_refl _⟩, ⟨by (try simp only [hl6_1]); (with_reducible repeat (first | apply Kd.R_alloc | apply Kd.R_drewN | apply Kd.R_drew)); exact HO_1.out⟩, ⟨by (try simp only [hl6_1]); (with_reducible repeat (first | apply Kd.R_alloc | apply Kd.R_drewN | apply Kd.R_drew)); exact HO_6.out⟩, ⟨by (try simp only [hl6_1]); (with_reducible repeat (first | refine blk_drewN ?_ _ | refine blk_drew ?_ | refine blk_alloc ?_ _)); exact BK113.out⟩, ⟨kp_⟩, ⟨bel_⟩⟩
      case round =>
       clear H'
       try clear hx1
       try clear hx11
       try clear hx19
       try clear hf19
       try clear hx118_0
       try clear hx19_0
       obtain ⟨x1_2, x43_2, rfl, HA, HK2, HO_1, HO_6, BK113, HK, HB⟩ := hrel
       cases gk with
       | zero => exact absurd HA.out (by simp [mixed_stage_oneW.l1])
       | succ k2 =>
        have H := HA.out
        clear HA
        simp only [mixed_stage_oneW.l1] at H
        by_cases c24 : x43_2 < (x6_1.length : Int)
        ·rw [if_pos c24] at H
         have c24b0 := decide_eq_true c24
         (try (have c24b0hl6_1 := c24b0; simp only [hl6_1] at c24b0hl6_1))
         clear c24
         have H' := Aside0.mk H
         clear H
         go_wp2
         go_loopg [9, 48] k2 (fun kq v9 v48 w' => ∃ (x9_3 : Int) (x48_3 : Int), v9 = .int .u64 x9_3 ∧ v48 = .int .i64 x48_3 ∧ Aside0 (mixed_stage_oneW.l2 s9 n9 kq x1_2 a2 x6_1 x43_2 x9_3 (x6_1.length : Int) x43_2 x6_1 (x6_1.length : Int) x48_3 l0_0 l0_1 a0_2 a0_3 = some r) ∧ Aside0 (kq ≤ k2) ∧ Aside0 (Kd.R (Kd.int .u64) 22 w' w0.heap.size (fun k_ => (P1_ k_ ∨ w.heap.size ≤ k_) ∧ some k_ ≠ ((.slice Ao10 x6_1.length co10) : Value).ownBlock ∧ some k_ ≠ ((.slice Ao10 x6_1.length co10) : Value).ownBlock) (.slice (some ⟨g9, 0, none⟩) l1.length co9) x1_2) ∧ Aside0 (Kd.R (Kd.int .u64) 22 w' w0.heap.size (fun k_ => (P1_ k_ ∨ w.heap.size ≤ k_) ∧ some k_ ≠ ((.slice (some ⟨g9, 0, none⟩) l1.length co9) : Value).ownBlock) (.slice Ao10 x6_1.length co10) x6_1) ∧ Aside0 (Kd.R (Kd.int .u64) 22 w' w0.heap.size (fun k_ => (P1_ k_ ∨ w.heap.size ≤ k_) ∧ some k_ ≠ ((.slice (some ⟨g9, 0, none⟩) l1.length co9) : Value).ownBlock) (.slice Ao10 x6_1.length co10) x6_1) ∧ Aside0 (w'.heap[gb113]? = some (.cells #[(toPtr (.slice A0_0 l0_0.length c0_0)), (.slice A0_1 l0_1.length c0_1), .int .i64 a0_2, .int .i64 a0_3] 104 (0, 0))) ∧ Aside0 (Kept w w' (fun k_ => P1_ k_)) ∧ Aside0 (Below w0.heap.size w0 w'))
         case atStart => exact ⟨(0), (0), eq_, eq_, H', ⟨Nat.le_refl _⟩, ⟨by (try simp only [hl6_1]); (with_reducible repeat (first | apply Kd.R_alloc | apply Kd.R_drewN | apply Kd.R_drew)); exact Kd.R_mono HO_1.out (fun _ hk => ⟨hk.1, ⟨hk.2, hk.2⟩⟩)⟩, ⟨by (try simp only [hl6_1]); (with_reducible repeat (first | apply Kd.R_alloc | apply Kd.R_drewN | apply Kd.R_drew)); exact HO_6.out⟩, ⟨by (try simp only [hl6_1]); (with_reducible repeat (first | apply Kd.R_alloc | apply Kd.R_drewN | apply Kd.R_drew)); exact HO_6.out⟩, ⟨by (try simp only [hl6_1]); (with_reducible repeat (first | refine blk_drewN ?_ _ | refine blk_drew ?_ | refine blk_alloc ?_ _)); exact BK113.out⟩, ⟨kp_⟩, ⟨bel_⟩⟩
         case round =>
          clear H'
          try clear hx1
          try clear hx11
          try clear hx19
          try clear hf19
          try clear hx118_0
          try clear hx19_0
          obtain ⟨x9_3, x48_3, rfl, rfl, HA, HK3, HO_1, HO_6, HO_46, BK113, HK, HB⟩ := hrel
          cases gk with
          | zero => exact absurd HA.out (by simp [mixed_stage_oneW.l2])
          | succ k3 =>
           have H := HA.out
           clear HA
           simp only [mixed_stage_oneW.l2] at H
           by_cases c25 : x48_3 < (x6_1.length : Int)
           ·rw [if_pos c25] at H
            have c25b0 := decide_eq_true c25
            (try (have c25b0hl6_1 := c25b0; simp only [hl6_1] at c25b0hl6_1))
            clear c25
            by_cases c26 : 0 ≤ x48_3
            ·rw [if_pos c26] at H
             have c26b0 := decide_eq_true c26
             clear c26
             by_cases c27 : x48_3 < (x6_1.length : Int)
             ·rw [if_pos c27] at H
              have c27b0 := decide_eq_true c27
              (try (have c27b0hl6_1 := c27b0; simp only [hl6_1] at c27b0hl6_1))
              clear c27
              replace H := Option.bind_eq_some_iff.mp H
              obtain ⟨t123, A280, H⟩ := H
              (try dsimp only at H)
              have A28 := Aside0.mk A280
              clear A280
              replace H := Option.bind_eq_some_iff.mp H
              obtain ⟨t124, A290, H⟩ := H
              (try dsimp only at H)
              have A29 := Aside0.mk A290
              clear A290
              replace H := Option.bind_eq_some_iff.mp H
              obtain ⟨t125, A300, H⟩ := H
              (try dsimp only at H)
              have A30 := Aside0.mk A300
              clear A300
              have H' := Aside0.mk H
              clear H
              have p122 : 0 ≤ (x48_3 : Int) := of_decide_eq_true (by assumption)
              have q122 : x48_3 < (x6_1.length : Int) := of_decide_eq_true (by assumption)
              obtain ⟨ad122, e122, hx122_0⟩ := Kd.at_int (Kd.R_reads' HO_46.out).2.2 x48_3 p122 q122
              cases e122
              replace p122 := eq_true p122
              replace q122 := eq_true q122
              try go_wp2
              have n0_ := Aside0.mk (Kd.R_drew HO_1.out)
              have n1_ := Aside0.mk (Kd.R_drew HO_6.out)
              have n2_ := Aside0.mk (Kd.R_drew HO_46.out)
              have n3_ := Aside0.mk (blk_drew BK113.out)
              have n4_ := Aside0.mk (Kept.drew HK.out)
              have n5_ := Aside0.mk (below_drew1 HB.out)
              clear HO_1
              clear HO_6
              clear HO_46
              clear BK113
              clear HK
              clear HB
              have HO_1 := n0_
              have HO_6 := n1_
              have HO_46 := n2_
              have BK113 := n3_
              have HK := n4_
              have HB := n5_
              clear n0_ n1_ n2_ n3_ n4_ n5_
              refine start_ (n := 17) (S := fun w' => w'.cell? ⟨gb113, 0, none⟩ = some (toPtr (.slice A0_0 l0_0.length c0_0)) ∧ w'.cell? ⟨gb113, 1, none⟩ = some (.slice A0_1 l0_1.length c0_1) ∧ w'.cell? ⟨gb113, 2, none⟩ = some (.int .i64 a0_2) ∧ w'.cell? ⟨gb113, 3, none⟩ = some (.int .i64 a0_3)) (ds := []) #[false, false, false, false, false, false, false, false, false, false, false, false, false, false, false, false, false] (by kernel_rfl) rfl rfl ⟨(blk_cell BK113.out 0).trans rfl, (blk_cell BK113.out 1).trans rfl, (blk_cell BK113.out 2).trans rfl, (blk_cell BK113.out 3).trans rfl⟩ (fun hHeld => ?_); refine with_tabW mixed_stage_oneW.tab14 mixed_stage_oneW.bits14 (fun HT_ HW_ => ?_)
              generalize wr.drew = w31 at HO_1 HO_6 HO_46 BK113 HK HB hHeld ⊢
              refine pT_ 0 53 HT_ rfl rfl ?_
              refine pT_ 2 55 HT_ rfl rfl ?_
              refine pT_ 3 56 HT_ rfl rfl ?_
              refine pT_ 6 59 HT_ rfl rfl ?_
              refine pT_ 7 60 HT_ rfl rfl ?_
              refine pT_ 8 61 HT_ rfl rfl ?_
              refine pT_ 9 62 HT_ rfl rfl ?_
              refine pT_ 13 66 HT_ rfl rfl ?_
              refine tS_ 1 54 (take_ofW HT_.out HW_.out (by kernel_rfl)) hHeld (by rintro w' ⟨s0, s1, s2, s3⟩; go_simp; with_reducible rfl) rfl rfl ?_
              refine tS_ 4 57 (take_ofW HT_.out HW_.out (by kernel_rfl)) hHeld (by rintro w' ⟨s0, s1, s2, s3⟩; go_simp; with_reducible rfl) rfl rfl ?_
              refine tS_ 5 58 (take_ofW HT_.out HW_.out (by kernel_rfl)) hHeld (by rintro w' ⟨s0, s1, s2, s3⟩; go_simp; with_reducible rfl) rfl rfl ?_
              refine tS_ 10 63 (take_ofW HT_.out HW_.out (by kernel_rfl)) hHeld (by rintro w' ⟨s0, s1, s2, s3⟩; go_simp; with_reducible rfl) rfl rfl ?_
              refine pT_ 11 64 HT_ rfl rfl ?_
              refine one_ (i := 12) (N := some 65) #[true, true, true, true, true, true, true, true, true, true, true, true, true, true, false, false, false] rfl rfl (one_of HT_.out (by kernel_rfl)) (by decide) (fun K hK => ?_)
              refine goes_ Tryz.func133 (by kernel_rfl) rfl #[.agg #[toPtr (.slice A0_0 l0_0.length c0_0), .slice A0_1 l0_1.length c0_1, .int .i64 a0_2, .int .i64 a0_3], .int .i64 (wrap64 ((wrap64 (x48_3 * x43_2)) * a0_3))] (by rfl) rfl rfl (by (try simp only [List.map_toArray, List.map_cons, List.map_nil]); first | done | (rw [hT_HR0_0] <;> rfl) | (rw [hT_HR0_0] <;> rfl) | rfl | (simp only [List.length_drop, List.length_take]; rfl)) ?_
              (try rw [← hT_HR0_0])
              with_reducible refine (mixed_stage_lift.calls _ _ l0_0 _ _ l0_1 a0_2 a0_3 (wrap64 ((wrap64 (x48_3 * x43_2)) * a0_3)) t123 _ ?side1 ?side2 ?side3 ?side4 A28.out).mono ?_
              (case side1 => exact Kd.C_kept_now HR0_0.out kp_)
              (case side2 => exact HC0_0.out)
              (case side3 => exact Kd.C_kept_now HR0_1.out kp_)
              (case side4 => exact HC0_1.out)
              rintro e w32 ⟨rfl, hb⟩
              refine ⟨_, rfl, ?_⟩
              have n0_ := Aside0.mk (Kd.R_below (rel_ HO_1.out) hb)
              have n1_ := Aside0.mk (Kd.R_below (rel_ HO_6.out) hb)
              have n2_ := Aside0.mk (Kd.R_below (rel_ HO_46.out) hb)
              have n3_ := Aside0.mk (blk_below BK113.out hb)
              have n4_ := Aside0.mk (Kept.below (S := (fun k_ => P1_ k_)) kp_ hb)
              have n5_ := Aside0.mk (below_step bel_ hb)
              clear HO_1
              clear HO_6
              clear HO_46
              clear BK113
              clear HK
              clear HB
              have HO_1 := n0_
              have HO_6 := n1_
              have HO_46 := n2_
              have BK113 := n3_
              have HK := n4_
              have HB := n5_
              clear n0_ n1_ n2_ n3_ n4_ n5_
              (try clear hb)
              (try clear hb2)
              (try clear hk)
              (try clear hi)
              refine hK.out _ _ ⟨(blk_cell BK113.out 0).trans rfl, (blk_cell BK113.out 1).trans rfl, (blk_cell BK113.out 2).trans rfl, (blk_cell BK113.out 3).trans rfl⟩ (fun hHeld => ?_)
              clear hK K
              refine nS_ ?_
              refine one_ (i := 14) (N := some 67) #[true, true, true, true, true, true, true, true, true, true, true, true, true, true, true, false, false] rfl rfl (one_of HT_.out (by kernel_rfl)) (by decide) (fun K hK => ?_)
              refine goes_ Tryz.func62 (by kernel_rfl) rfl #[toPtr (.slice A0_0 l0_0.length c0_0), .int .u64 t123, .int .u64 (rd x6_1 x48_3)] (by rfl) rfl rfl (by (try simp only [List.map_toArray, List.map_cons, List.map_nil]); first | done | (rw [hT_HR0_0] <;> rfl) | (rw [hT_HR0_0] <;> rfl) | rfl | (simp only [List.length_drop, List.length_take]; rfl)) ?_
              (try rw [← hT_HR0_0])
              with_reducible refine (field_Field_Times.calls _ _ l0_0 t123 (rd x6_1 x48_3) t124 _ ?side1 ?side2 A29.out).mono ?_
              (case side1 => exact Kd.C_kept_now HR0_0.out kp_)
              (case side2 => exact HC0_0.out)
              rintro e w' ⟨rfl, ⟨nd, rfl⟩⟩
              refine ⟨_, rfl, ?_⟩
              refine hK.out _ _ ⟨(blk_cell BK113.out 0).trans rfl, (blk_cell BK113.out 1).trans rfl, (blk_cell BK113.out 2).trans rfl, (blk_cell BK113.out 3).trans rfl⟩ (fun hHeld => ?_)
              clear hK K
              refine nS_ ?_
              refine one_ (i := 15) (N := some 68) #[true, true, true, true, true, true, true, true, true, true, true, true, true, true, true, true, false] rfl rfl (one_of HT_.out (by kernel_rfl)) (by decide) (fun K hK => ?_)
              refine goes_ Tryz.func96 (by kernel_rfl) rfl #[toPtr (.slice A0_0 l0_0.length c0_0), .int .u64 x9_3, .int .u64 t124] (by rfl) rfl rfl (by (try simp only [List.map_toArray, List.map_cons, List.map_nil]); first | done | (rw [hT_HR0_0] <;> rfl) | (rw [hT_HR0_0] <;> rfl) | rfl | (simp only [List.length_drop, List.length_take]; rfl)) ?_
              (try rw [← hT_HR0_0])
              with_reducible refine (field_Field_Add.calls _ _ l0_0 x9_3 t124 t125 _ ?side1 ?side2 A30.out).mono ?_
              (case side1 => exact Kd.C_kept_now HR0_0.out kp_)
              (case side2 => exact HC0_0.out)
              rintro e w' ⟨rfl, ⟨nd, rfl⟩⟩
              refine ⟨_, rfl, ?_⟩
              refine hK.out _ _ ⟨(blk_cell BK113.out 0).trans rfl, (blk_cell BK113.out 1).trans rfl, (blk_cell BK113.out 2).trans rfl, (blk_cell BK113.out 3).trans rfl⟩ (fun hHeld => ?_)
              clear hK K
              refine nS_ ?_
              refine pT_ 16 9 HT_ rfl rfl ?_
              refine done_ (done_of HT_.out (by kernel_rfl)) ?_
              try go_wp2
              go_roundg k3
              case measure => have := HK1.out; have := HK2.out; have := HK3.out; omega
              case rel => exact ⟨(t125), (wrap64 (x48_3 + 1)), eq_, eq_, H', ⟨by have := HK1.out; have := HK2.out; have := HK3.out; omega⟩, ⟨by (try simp only [hl6_1]); (with_reducible repeat (first | apply Kd.R_alloc | apply Kd.R_drewN | apply Kd.R_drew)); exact HO_1.out⟩, ⟨by (try simp only [hl6_1]); (with_reducible repeat (first | apply Kd.R_alloc | apply Kd.R_drewN | apply Kd.R_drew)); exact HO_6.out⟩, ⟨by (try simp only [hl6_1]); (with_reducible repeat (first | apply Kd.R_alloc | apply Kd.R_drewN | apply Kd.R_drew)); exact HO_46.out⟩, ⟨by (try simp only [hl6_1]); (with_reducible repeat (first | refine blk_drewN ?_ _ | refine blk_drew ?_ | refine blk_alloc ?_ _)); exact BK113.out⟩, ⟨kp_⟩, ⟨bel_⟩⟩
             ·rw [if_neg c27] at H
              exact absurd H (by simp)
            ·rw [if_neg c26] at H
             exact absurd H (by simp)
           ·rw [if_neg c25] at H
            have c25b0 := decide_eq_false c25
            (try (have c25b0hl6_1 := c25b0; simp only [hl6_1] at c25b0hl6_1))
            clear c25
            obtain ⟨ji33, hji33⟩ : ∃ j_ : Int, (wrap64 ((wrap64 (x43_2 * a0_3)) + a2)) = j_ := ⟨_, rfl⟩
            (first | rw [hji33] at H | simp only [hji33] at H)
            have hji33v : (IntKind.i64.wrap ((IntKind.i64.wrap (x43_2 * a0_3)) + a2)) = ji33 := by simp only [i64_w]; exact hji33
            have hji33w : (IntKind.i64.wrap ((wrap64 (x43_2 * a0_3)) + a2)) = ji33 := (i64_w _).trans hji33
            by_cases c34 : 0 ≤ (ji33)
            ·rw [if_pos c34] at H
             have c34b0 := decide_eq_true c34
             clear c34
             by_cases c35 : (ji33) < (n9 : Int)
             ·rw [if_pos c35] at H
              have c35b0 := decide_eq_true c35
              (try (have c35b0hl6_1 := c35b0; simp only [hl6_1] at c35b0hl6_1))
              clear c35
              obtain ⟨y121, hy121⟩ : ∃ y_ : List Int, y_ = (x1_2.set (s9 + ((ji33) : Int).toNat) x9_3) := ⟨_, rfl⟩
              replace H : (mixed_stage_oneW.l1 s9 n9 k3 y121 a2 x6_1 (x6_1.length : Int) (wrap64 (x43_2 + 1)) l0_0 l0_1 a0_2 a0_3) = some r := by first | (rw [hy121]; with_reducible exact H) | (have H2_ := (Option.bind_some _ _).symm.trans H; rw [hy121]; with_reducible exact H2_) | (have H2_ := (Option.bind_some _ _).symm.trans H; with_reducible exact H2_) | with_reducible exact H | (rw [hy121]; exact H) | exact H
              have Ny121 := Aside0.mk hy121
              clear hy121
              have H' := Aside0.mk H
              clear H
              have hcz37_0 := bc_ BK113.out 0 rfl
              have hcz37_1 := bc_ BK113.out 1 rfl
              have hcz37_2 := bc_ BK113.out 2 rfl
              have hcz37_3 := bc_ BK113.out 3 rfl
              have hfz37_0 := blk_frozen BK113.out 0
              have hfz37_1 := blk_frozen BK113.out 1
              have hfz37_2 := blk_frozen BK113.out 2
              have hfz37_3 := blk_frozen BK113.out 3
              have p36 : 0 ≤ ((ji33) : Int) := of_decide_eq_true (by assumption)
              have q36 : ((ji33) : Int) < ((n9 : Int) : Int) := of_decide_eq_true (by assumption)
              obtain ⟨gb36, cl36, HG36⟩ := win_form HO_1.out HS9.out p36 q36
              have GB36 := Aside0.mk gb36
              have GG36 := Aside0.mk HG36
              clear gb36 HG36
              have HMg9 := Aside0.mk (show (P1_ g9 ∨ w.heap.size ≤ g9) from (HO_1.out.1 _ rfl).1)
              obtain ⟨hx36_0, hf36_0⟩ := win_rd HO_1.out HS9.out ((ji33) : Int) p36 q36
              have p36' : 0 ≤ ((ji33) : Int) := p36
              replace p36 := eq_true p36
              replace q36 := eq_true q36
              have HP38 := win_put HO_1.out (s := s9) ((ji33) : Int) x9_3 p36'
              go_wp2_with (first | ((with_reducible refine gate_store (t := 22) (p := 78) rfl ?_); refine store_event (t := 22) (p := 78) (v := ?vo_w39) (w1 := (wr.setCell ⟨g9, s9 + ((ji33) : Int).toNat, none⟩ (.int .u64 x9_3))) ?hg ?ho ?hn ?hr ?_; (case ho => rfl); (case hg => rfl); (case hn => rfl); (case hr => first | (go_simp; done) | (go_simp; rfl)); intro w39 hw; have hg : wr.grownBy w39 (some g9) := (by rw [hw]; exact HP38.2); have hp_ : Kd.R (Kd.int .u64) 22 w39 w0.heap.size (fun k_ => (P1_ k_ ∨ w.heap.size ≤ k_) ∧ some k_ ≠ (.slice Ao10 x6_1.length co10 : Value).ownBlock ∧ some k_ ≠ (.slice Ao10 x6_1.length co10 : Value).ownBlock) (.slice (some ⟨g9, 0, none⟩) l1.length co9) y121 := (by rw [hw, Ny121.out]; exact HP38.1); clear HP38; have n0_ := Aside0.mk (hp_); have n1_ := Aside0.mk (Kd.R_after (v := (.slice (some ⟨g9, 0, none⟩) l1.length co9)) (v1 := (.slice (some ⟨g9, 0, none⟩) l1.length co9)) (ok := (fun k_ => (P1_ k_ ∨ w.heap.size ≤ k_))) (rel_ HO_6.out) hg (.inl rfl)); have n2_ := Aside0.mk (Kd.R_after (v := (.slice (some ⟨g9, 0, none⟩) l1.length co9)) (v1 := (.slice (some ⟨g9, 0, none⟩) l1.length co9)) (ok := (fun k_ => (P1_ k_ ∨ w.heap.size ≤ k_))) (rel_ HO_46.out) hg (.inl rfl)); have n3_ := Aside0.mk (blk_grown (g := gb113) (o := .cells #[toPtr (.slice A0_0 l0_0.length c0_0), .slice A0_1 l0_1.length c0_1, .int .i64 a0_2, .int .i64 a0_3] 104 (0, 0)) (blkx_ BK113.out) hg (Kd.R_ne HO_1.out BK113.out (by decide))); have n4_ := Aside0.mk ((by rw [hw]; exact below_set (HB.out) GB36.out : Below w0.heap.size w0 w39)); have n5_ := Aside0.mk (Kept.of_grown (S := (fun k_ => P1_ k_)) hg kp_ (fun k_ e_ => (HO_1.out.1 k_ e_).1)); clear HO_1; clear HO_6; clear HO_46; clear BK113; clear HB; clear HK; have HO_1 := n0_; have HO_6 := n1_; have HO_46 := n2_; have BK113 := n3_; have HB := n4_; have HK := n5_; clear n0_ n1_ n2_ n3_ n4_ n5_; clear hg hw hp_))
              go_roundg k3
              case measure => have := HK1.out; have := HK2.out; have := HK3.out; omega
              case rel => exact ⟨(y121), (wrap64 (x43_2 + 1)), eq_, H', ⟨by have := HK1.out; have := HK2.out; have := HK3.out; omega⟩, ⟨by (try simp only [hl6_1]); (with_reducible repeat (first | apply Kd.R_alloc | apply Kd.R_drewN | apply Kd.R_drew)); exact Kd.R_mono HO_1.out (fun _ hk => ⟨hk.1, hk.2.1⟩)⟩, ⟨by (try simp only [hl6_1]); (with_reducible repeat (first | apply Kd.R_alloc | apply Kd.R_drewN | apply Kd.R_drew)); exact HO_6.out⟩, ⟨by (try simp only [hl6_1]); (with_reducible repeat (first | refine blk_drewN ?_ _ | refine blk_drew ?_ | refine blk_alloc ?_ _)); exact BK113.out⟩, ⟨kp_⟩, ⟨bel_⟩⟩
             ·rw [if_neg c35] at H
              exact absurd H (by simp)
            ·rw [if_neg c34] at H
             exact absurd H (by simp)
        ·rw [if_neg c24] at H
         have c24b0 := decide_eq_false c24
         (try (have c24b0hl6_1 := c24b0; simp only [hl6_1] at c24b0hl6_1))
         clear c24
         obtain rfl := Option.some.inj H
         go_wp2
         first | go_end0 | ((try simp only [Exit.inBlock, Exit.then]); refine bodyPost_ret (results_none rfl _ _ _) rfl ?_)
         exact ⟨eq_, (by first | exact (by (with_reducible repeat (first | apply Kd.R_alloc | apply Kd.R_drewN | apply Kd.R_drew)); exact Kd.R_mono HO_1.out (fun _ hk => hk.1)) | (simp only [hl6_1]; exact (by (with_reducible repeat (first | apply Kd.R_alloc | apply Kd.R_drewN | apply Kd.R_drew)); exact Kd.R_mono HO_1.out (fun _ hk => hk.1)))), bel_, kp_⟩
  ·rw [if_neg c5] at H
   exact absurd H (by simp)
 ·rw [if_neg c4] at H
  exact absurd H (by simp)
end Go.Proofs.YtndkmnjbjlfeaaaGreat.XM
end
section
namespace Go.Proofs.YtndkmnjbjlfeaaaGreat.XM
open Go Go.RowKit Go.Proofs.YtndkmnjbjlfeaaaGreatW.PrintWords Go.Proofs.YtndkmnjbjlfeaaaGreatW.PrintLast Go.Proofs.YtndkmnjbjlfeaaaGreatW.PrintMore Go.Proofs.YtndkmnjbjlfeaaaGreat.Given Go.Proofs.YtndkmnjbjlfeaaaGreat.M Go.Proofs.YtndkmnjbjlfeaaaGreat.Mont Go.Proofs.YtndkmnjbjlfeaaaGreat.XS Go.Proofs.YtndkmnjbjlfeaaaGreat.XT Go.Proofs.YtndkmnjbjlfeaaaGreat.XR Go.Proofs.YtndkmnjbjlfeaaaGreat.F06
set_option linter.unusedVariables false
mutual
noncomputable def mixed_stage_all.l0 : Nat → List Fld → List Int → Int → Int → List Int → Int → Option (List Int)
  | 0, _, _, _, _, _, _ => none
  | k + 1, F, T, r, m, x1, x5 => if x5 < (x1.length : Int) then mixed_stage_all.l1 k F T r m x1 x5 0 else some x1
noncomputable def mixed_stage_all.l1 : Nat → List Fld → List Int → Int → Int → List Int → Int → Int → Option (List Int)
  | 0, _, _, _, _, _, _, _ => none
  | k + 1, F, T, r, m, x1, x5, x21 => if x21 < m then (if 0 ≤ x5 ∧ x5 < wrap64 (x5 + wrap64 (r * m)) ∧ wrap64 (x5 + wrap64 (r * m)) ≤ (x1.length : Int) then (mixed_stage_oneW.f x5.toNat ((wrap64 (x5 + wrap64 (r * m))).toNat - x5.toNat) k F T r m x1 x21).bind fun y => mixed_stage_all.l1 k F T r m y x5 (wrap64 (x21 + 1)) else none) else mixed_stage_all.l0 k F T r m x1 (wrap64 (x5 + wrap64 (r * m)))
end
noncomputable def mixed_stage_all.f (k : Nat) (F : List Fld) (T : List Int) (r m : Int) (l : List Int) : Option (List Int) := mixed_stage_all.l0 k F T r m l 0
set_option maxHeartbeats 8000000 in
set_option maxRecDepth 100000 in
theorem mixed_stage_all.calls (k : Nat) (A0_0 : Option Addr) (c0_0 : Nat) (l0_0 : List (Fld)) (A0_1 : Option Addr) (c0_1 : Nat) (l0_1 : List Int) (a0_2 : Int) (a0_3 : Int) (P1_ : Nat → Prop) (u9000_ : Value) (l1 : List Int) (r : List Int) (w0 w : World) (hB : Below w0.heap.size w0 w) (hr0_0 : ∀ W_, Kept w W_ (fun k_ => P1_ k_) → Kd.C kFld W_ A0_0 l0_0.length l0_0) (hc0_0 : l0_0.length ≤ c0_0) (hr0_1 : ∀ W_, Kept w W_ (fun k_ => P1_ k_) → Kd.C (Kd.int .u64) W_ A0_1 l0_1.length l0_1) (hc0_1 : l0_1.length ≤ c0_1) (ho1 : Kd.R (Kd.int .u64) 22 w w0.heap.size P1_ u9000_ l1) (h : mixed_stage_all.f k l0_0 l0_1 a0_2 a0_3 l1 = some r) :
    Calls Tryz.prog 68 #[.agg #[toPtr (.slice A0_0 l0_0.length c0_0), .slice A0_1 l0_1.length c0_1, .int .i64 a0_2, .int .i64 a0_3], u9000_] w fun e w' => e = .returned (.tuple #[]) ∧ Kd.R (Kd.int .u64) 22 w' w0.heap.size (fun k_ => (P1_ k_ ∨ w.heap.size ≤ k_)) u9000_ r ∧ Below w0.heap.size w0 w' ∧ Kept w w' (fun k_ => P1_ k_) := by
  have hu104 := Tryz.underlying104
  have HR0_0 := Aside0.mk hr0_0
  have HC0_0 := Aside0.mk hc0_0
  have HR0_1 := Aside0.mk hr0_1
  have HC0_1 := Aside0.mk hc0_1
  clear hr0_0 hc0_0 hr0_1 hc0_1
  obtain ⟨Ao, co, rfl⟩ := Kd.R_slice ho1
  have HO1 := Aside0.mk (show Kd.R (Kd.int .u64) 22 w w0.heap.size (fun k_ => (P1_ k_ ∨ w.heap.size ≤ k_)) (.slice Ao l1.length co) l1 from Kd.R_mono ho1 (fun k_ hk => (.inl hk)))
  have hcap : l1.length ≤ co := (Kd.R_reads' ho1).2.1
  have HCO := Aside0.mk hcap
  have HP1 := Aside0.mk ho1.1
  have HLT := Aside0.mk (fun k hk => Kd.R_lt ho1 k hk)
  clear ho1 hcap
  have HK := Aside0.mk (Kept.refl w (fun k_ => P1_ k_))
  have HW0 := Aside0.mk hB.size
  have HB := Aside0.mk hB
  clear hB
  unfold mixed_stage_all.f at h
  have H' := Aside0.mk h
  clear h
  obtain ⟨z9, hz9⟩ : ∃ z_ : Int, wrap64 (a0_2 * a0_3) = z_ := ⟨_, rfl⟩
  have hz9v : IntKind.i64.wrap (a0_2 * a0_3) = z9 := by simp only [i64_w]; exact hz9
  go_enter Tryz.func68, Tryz.ntmps68
  go_wp2_with (first | ((with_reducible refine gate_dst (N := 2) rfl ?_); refine box_event ?hg (N := 2) ?hd (cs := #[toPtr (.slice A0_0 l0_0.length c0_0), .slice A0_1 l0_1.length c0_1, .int .i64 a0_2, .int .i64 a0_3]) (t := 104) ?hr ?_; (case hd => rfl); (case hg => rfl); (case hr => first | (go_simp; done) | (go_simp; rfl)); intro gb113 hg w6 hbox hb; have n0_ := Aside0.mk (Kd.R_below HO1.out hb); have n1_ := Aside0.mk (Kept.below (S := (fun k_ => P1_ k_)) HK.out hb); have n2_ := Aside0.mk (below_step HB.out hb); have n3_ := Aside0.mk (hbox); have n4_ := Aside0.mk ((by rw [hg]; exact Nat.le_refl _) : w.heap.size ≤ gb113); have n5_ := Aside0.mk ((by rw [hg]; exact below_size HB.out : w0.heap.size ≤ gb113)); clear HO1; clear HK; clear HB; have HO1 := n0_; have HK := n1_; have HB := n2_; have BK113 := n3_; have GW113 := n4_; have GE113 := n5_; clear n0_ n1_ n2_ n3_ n4_ n5_; clear hb hbox hg; have hcz7_0 : w6.cell? ⟨gb113, 0, none⟩ = some (toPtr (.slice A0_0 l0_0.length c0_0)) := (blk_cell BK113.out 0).trans rfl; have hcz7_1 : w6.cell? ⟨gb113, 1, none⟩ = some (.slice A0_1 l0_1.length c0_1) := (blk_cell BK113.out 1).trans rfl; have hcz7_2 : w6.cell? ⟨gb113, 2, none⟩ = some (.int .i64 a0_2) := (blk_cell BK113.out 2).trans rfl; have hcz7_3 : w6.cell? ⟨gb113, 3, none⟩ = some (.int .i64 a0_3) := (blk_cell BK113.out 3).trans rfl))
  go_loopg [5] k (fun kq v5 w' => ∃ (x1 : List Int) (x5 : Int), v5 = .int .i64 x5 ∧ Aside0 (mixed_stage_all.l0 kq l0_0 l0_1 a0_2 a0_3 x1 x5 = some r) ∧ Aside0 (kq ≤ k) ∧ Aside0 (Kd.R (Kd.int .u64) 22 w' w0.heap.size (fun k_ => (P1_ k_ ∨ w.heap.size ≤ k_)) (.slice Ao l1.length co) x1) ∧ Aside0 (w'.heap[gb113]? = some (.cells #[toPtr (.slice A0_0 l0_0.length c0_0), (.slice A0_1 l0_1.length c0_1), .int .i64 a0_2, .int .i64 a0_3] 104 (0, 0))) ∧ Aside0 (Kept w w' (fun k_ => P1_ k_)) ∧ Aside0 (Below w0.heap.size w0 w'))
  case atStart => exact ⟨l1, 0, rfl, H', ⟨Nat.le_refl _⟩, HO1, BK113, HK, HB⟩
  case round =>
    clear H' HO1 BK113 HK HB hcz7_0 hcz7_1 hcz7_2 hcz7_3
    obtain ⟨x1, x5, rfl, HA, HK1, HO, BK113, HK, HB⟩ := hrel
    have hl := (Kd.R_reads' HO.out).1
    have HL := Aside0.mk hl
    cases gk with
    | zero => exact absurd HA.out (by simp [mixed_stage_all.l0])
    | succ k1 =>
      have H := HA.out
      clear HA
      simp only [mixed_stage_all.l0] at H
      by_cases c1 : x5 < (x1.length : Int)
      · rw [if_pos c1] at H
        have H' := Aside0.mk H
        clear H
        have c1b : decide (x5 < (l1.length : Int)) = true := decide_eq_true (by omega)
        clear c1
        have hcz7_3 : wr.cell? ⟨gb113, 3, none⟩ = some (.int .i64 a0_3) := (blk_cell BK113.out 3).trans rfl
        have hfz7_3 := blk_frozen BK113.out 3
        clear hl
        go_wp2
        go_loopg [21] k1 (fun kq v21 w' => ∃ (x1 : List Int) (x21 : Int), v21 = .int .i64 x21 ∧ Aside0 (mixed_stage_all.l1 kq l0_0 l0_1 a0_2 a0_3 x1 x5 x21 = some r) ∧ Aside0 (kq ≤ k1) ∧ Aside0 (Kd.R (Kd.int .u64) 22 w' w0.heap.size (fun k_ => (P1_ k_ ∨ w.heap.size ≤ k_)) (.slice Ao l1.length co) x1) ∧ Aside0 (w'.heap[gb113]? = some (.cells #[toPtr (.slice A0_0 l0_0.length c0_0), (.slice A0_1 l0_1.length c0_1), .int .i64 a0_2, .int .i64 a0_3] 104 (0, 0))) ∧ Aside0 (Kept w w' (fun k_ => P1_ k_)) ∧ Aside0 (Below w0.heap.size w0 w'))
        case atStart => exact ⟨x1, 0, rfl, H', ⟨Nat.le_refl _⟩, HO, BK113, HK, HB⟩
        case round =>
          clear H' HO BK113 HK HB hcz7_3 hfz7_3 HL
          obtain ⟨x1, x21, rfl, HA, HK2, HO, BK113, HK, HB⟩ := hrel
          have hl := (Kd.R_reads' HO.out).1
          cases gk with
          | zero => exact absurd HA.out (by simp [mixed_stage_all.l1])
          | succ k2 =>
            have H := HA.out
            clear HA
            simp only [mixed_stage_all.l1] at H
            by_cases c2 : x21 < a0_3
            · rw [if_pos c2] at H
              have c2b : decide (x21 < a0_3) = true := decide_eq_true c2
              clear c2
              by_cases c3 : 0 ≤ x5 ∧ x5 < wrap64 (x5 + wrap64 (a0_2 * a0_3)) ∧ wrap64 (x5 + wrap64 (a0_2 * a0_3)) ≤ (x1.length : Int)
              · rw [if_pos c3] at H
                rw [hz9] at H c3
                obtain ⟨e9, he9⟩ : ∃ e_ : Int, wrap64 (x5 + z9) = e_ := ⟨_, rfl⟩
                have he9v : IntKind.i64.wrap (x5 + z9) = e9 := by simp only [i64_w]; exact he9
                rw [he9] at H c3
                obtain ⟨y, hy, H⟩ := Option.bind_eq_some_iff.mp H
                have HY := Aside0.mk hy
                have H' := Aside0.mk H
                clear H hy
                obtain ⟨d1, d2, d3⟩ := c3
                have hc := HCO.out
                have p1 : 0 ≤ x5 := d1
                have p2 : x5 ≤ e9 := by omega
                have p3 : e9 ≤ (co : Int) := by omega
                have p4 : 0 ≤ e9 := by omega
                have p5 : ¬ e9.toNat = x5.toNat := by omega
                obtain ⟨g, cap, eo, gb, gl, HG⟩ := Kd.R_form HO.out (by omega)
                injection eo with ea en ec
                have hs9 : x5.toNat + (e9.toNat - x5.toNat) ≤ x1.length := by omega
                have HS := Aside0.mk hs9
                have HC := Aside0.mk hl
                subst ea
                clear d1 d2 d3 hs9 hl gb gl HG hc en ec
                have HPg := Aside0.mk (HP1.out g rfl)
                replace p1 := eq_true p1
                replace p2 := eq_true p2
                replace p3 := eq_true p3
                replace p4 := eq_true p4
                replace p5 := eq_false p5
                have hcz7_0 : wr.cell? ⟨gb113, 0, none⟩ = some (toPtr (.slice A0_0 l0_0.length c0_0)) := (blk_cell BK113.out 0).trans rfl
                have hcz7_1 : wr.cell? ⟨gb113, 1, none⟩ = some (.slice A0_1 l0_1.length c0_1) := (blk_cell BK113.out 1).trans rfl
                have hcz7_2 : wr.cell? ⟨gb113, 2, none⟩ = some (.int .i64 a0_2) := (blk_cell BK113.out 2).trans rfl
                have hcz7_3 : wr.cell? ⟨gb113, 3, none⟩ = some (.int .i64 a0_3) := (blk_cell BK113.out 3).trans rfl
                have hfz7_0 := blk_frozen BK113.out 0
                have hfz7_1 := blk_frozen BK113.out 1
                have hfz7_2 := blk_frozen BK113.out 2
                have hfz7_3 := blk_frozen BK113.out 3
                go_wp2
                have n0_ := Aside0.mk (Kd.R_drew HO.out)
                have n2_ := Aside0.mk (blk_drew BK113.out)
                have n3_ := Aside0.mk (Kept.drew HK.out)
                have n4_ := Aside0.mk (below_drew1 HB.out)
                clear HO BK113 HK HB hcz7_0 hcz7_1 hcz7_2 hcz7_3 hfz7_0 hfz7_1 hfz7_2 hfz7_3
                have HO := n0_
                have BK113 := n2_
                have HK := n3_
                have HB := n4_
                clear n0_ n2_ n3_ n4_
                refine start_ (n := 12) (S := fun w' => w'.cell? ⟨gb113, 0, none⟩ = some (toPtr (.slice A0_0 l0_0.length c0_0)) ∧ w'.cell? ⟨gb113, 1, none⟩ = some (.slice A0_1 l0_1.length c0_1) ∧ w'.cell? ⟨gb113, 2, none⟩ = some (.int .i64 a0_2) ∧ w'.cell? ⟨gb113, 3, none⟩ = some (.int .i64 a0_3)) (ds := [11]) #[false, false, false, false, false, false, false, false, false, false, false, false] (by kernel_rfl) rfl rfl ⟨(blk_cell BK113.out 0).trans rfl, (blk_cell BK113.out 1).trans rfl, (blk_cell BK113.out 2).trans rfl, (blk_cell BK113.out 3).trans rfl⟩ (fun hHeld => ?_)
                generalize wr.drew = w20 at HO BK113 HK HB hHeld ⊢
                refine pS_ 1 25 (by kernel_rfl) rfl rfl ?_
                refine pS_ 2 26 (by kernel_rfl) rfl rfl ?_
                refine pS_ 3 27 (by kernel_rfl) rfl rfl ?_
                refine pS_ 4 28 (by kernel_rfl) rfl rfl ?_
                refine pS_ 5 29 (by kernel_rfl) rfl rfl ?_
                refine pS_ 6 30 (by kernel_rfl) rfl rfl ?_
                refine pS_ 7 31 (by kernel_rfl) rfl rfl ?_
                refine pS_ 8 32 (by kernel_rfl) rfl rfl ?_
                refine pS_ 9 33 (by kernel_rfl) rfl rfl ?_
                refine pS_ 10 34 (by kernel_rfl) rfl rfl ?_
                refine tS_ 0 24 (by kernel_rfl) hHeld (by rintro w' ⟨s0, s1, s2, s3⟩; go_simp; with_reducible rfl) rfl rfl ?_
                refine last_ (i := 11) (N := some 35) #[true, true, true, true, true, true, true, true, true, true, true, true] rfl rfl (by kernel_rfl) (by decide) (fun K hK => ?_)
                refine goes_ Tryz.func106 (by kernel_rfl) rfl #[.agg #[toPtr (.slice A0_0 l0_0.length c0_0), .slice A0_1 l0_1.length c0_1, .int .i64 a0_2, .int .i64 a0_3], .slice (some ⟨g, x5.toNat, none⟩) (e9.toNat - x5.toNat) (e9.toNat - x5.toNat), .int .i64 x21] (by rfl) rfl rfl (by (try simp only [List.map_toArray, List.map_cons, List.map_nil]); first | done | rfl) ?_
                have ho' : Kd.R (Kd.int .u64) 22 w20 w0.heap.size (fun k_ => k_ = g) (.slice (some ⟨g, 0, none⟩) x1.length co) x1 := by
                  rw [← HC.out]
                  exact Kd.R_flat (fun h => h) HO.out (fun k hk _ => (Option.some.inj hk).symm)
                have hkk : ∀ W_, Kept w20 W_ (fun k_ => k_ = g) → Kept w W_ (fun k_ => P1_ k_) := fun W_ hk => HK.out.then_ hk (fun k e => .inl (by rw [e]; exact HPg.out))
                refine (mixed_stage_oneW.calls k2 A0_0 c0_0 l0_0 A0_1 c0_1 l0_1 a0_2 a0_3 (fun k_ => k_ = g) g x5.toNat (e9.toNat - x5.toNat) (e9.toNat - x5.toNat) co x1 x21 y w0 w20 HB.out (fun W_ hk => HR0_0.out W_ (hkk W_ hk)) HC0_0.out (fun W_ hk => HR0_1.out W_ (hkk W_ hk)) HC0_1.out ho' HS.out HY.out).mono ?_
                rintro e w22 ⟨rfl, ho, hb, hk⟩
                refine ⟨_, rfl, ?_⟩
                have hgb : gb113 ≠ g := by have := HLT.out g rfl; have := GW113.out; omega
                have n0_ : Aside0 (Kd.R (Kd.int .u64) 22 w22 w0.heap.size (fun k_ => (P1_ k_ ∨ w.heap.size ≤ k_)) (.slice (some ⟨g, 0, none⟩) l1.length co) y) := ⟨by
                  rw [HC.out]
                  exact Kd.R_flat (fun h => h) ho (fun k hk' _ => .inl (by rw [← Option.some.inj hk']; exact HPg.out))⟩
                have n2_ : Aside0 (w22.heap[gb113]? = some (.cells #[toPtr (.slice A0_0 l0_0.length c0_0), (.slice A0_1 l0_1.length c0_1), .int .i64 a0_2, .int .i64 a0_3] 104 (0, 0))) := ⟨(hk.2 gb113 (blk_lt BK113.out) hgb).trans BK113.out⟩
                have n3_ : Aside0 (Kept w w22 (fun k_ => P1_ k_)) := ⟨hkk w22 hk⟩
                have n4_ : Aside0 (Below w0.heap.size w0 w22) := ⟨hb⟩
                clear HO BK113 HK HB ho hb hk ho' hkk hHeld
                have HO := n0_
                have BK113 := n2_
                have HK := n3_
                have HB := n4_
                clear n0_ n2_ n3_ n4_
                refine hK.out _ _ ?_
                clear hK K
                refine done_ (by kernel_rfl) ?_
                try go_wp2
                go_roundg k2
                case measure => have := HK1.out; have := HK2.out; omega
                case rel => exact ⟨y, (wrap64 (x21 + 1)), rfl, H', ⟨by have := HK2.out; omega⟩, HO, BK113, HK, HB⟩
              · rw [if_neg c3] at H
                exact absurd H (by simp)
            · rw [if_neg c2] at H
              have H' := Aside0.mk H
              have c2b : decide (x21 < a0_3) = false := decide_eq_false c2
              clear H c2 hl
              go_wp2
              go_roundg k2
              case measure => have := HK1.out; have := HK2.out; omega
              case rel => exact ⟨x1, (wrap64 (x5 + wrap64 (a0_2 * a0_3))), (by rw [hz9]), H', ⟨by have := HK1.out; have := HK2.out; omega⟩, HO, BK113, HK, HB⟩
      · rw [if_neg c1] at H
        have c1b : decide (x5 < (l1.length : Int)) = false := decide_eq_false (by omega)
        obtain rfl := Option.some.inj H
        clear H c1 hl
        go_wp2
        first | go_end0 | ((try simp only [Exit.inBlock, Exit.then]); refine bodyPost_ret (results_none rfl _ _ _) rfl ?_)
        exact ⟨rfl, HO.out, HB.out, HK.out⟩
end Go.Proofs.YtndkmnjbjlfeaaaGreat.XM
end
section
namespace Go.Proofs.YtndkmnjbjlfeaaaGreat.XM
open Go Go.RowKit Go.Proofs.YtndkmnjbjlfeaaaGreatW.PrintWords Go.Proofs.YtndkmnjbjlfeaaaGreatW.PrintLast Go.Proofs.YtndkmnjbjlfeaaaGreatW.PrintMore Go.Proofs.YtndkmnjbjlfeaaaGreat.Given Go.Proofs.YtndkmnjbjlfeaaaGreat.M Go.Proofs.YtndkmnjbjlfeaaaGreat.Mont Go.Proofs.YtndkmnjbjlfeaaaGreat.XS Go.Proofs.YtndkmnjbjlfeaaaGreat.XT Go.Proofs.YtndkmnjbjlfeaaaGreat.XR Go.Proofs.YtndkmnjbjlfeaaaGreat.F06
set_option linter.unusedVariables false
def rAt (i : Int) : Int := if i = 0 then 2 else if i = 1 then 3 else if i = 2 then 5 else 7
theorem rAt_pos (i : Int) : 2 ≤ rAt i := by unfold rAt; split <;> (try split) <;> (try split) <;> omega
mutual
noncomputable def mixed_Radices.l0 : Nat → Int → List Int → Int → Option (List Int × Bool)
  | 0, _, _, _ => none
  | k + 1, x0, x4, x14 => if x14 < 4 then (if 0 ≤ x14 then mixed_Radices.l1 k x0 x4 x14 else none) else if x0 > 1 then some ([], false) else some (x4, true)
noncomputable def mixed_Radices.l1 : Nat → Int → List Int → Int → Option (List Int × Bool)
  | 0, _, _, _ => none
  | k + 1, x0, x4, x14 => if Int.tmod x0 (rAt x14) = 0 then (if x4.length < 17592186044416 then mixed_Radices.l1 k (wrap64 (Int.tdiv x0 (rAt x14))) (x4 ++ [rAt x14]) x14 else none) else mixed_Radices.l0 k x0 x4 (wrap64 (x14 + 1))
end
noncomputable def mixed_Radices.f (k : Nat) (n : Int) : Option (List Int × Bool) := if n < 1 then some ([], false) else if n > 1024 then some ([], false) else mixed_Radices.l0 k n [] 0
theorem mixed_Radices.mono_l : ∀ k, (∀ y0 y1 y2, LeO (mixed_Radices.l0 k y0 y1 y2) (mixed_Radices.l0 (k + 1) y0 y1 y2)) ∧ (∀ y0 y1 y2, LeO (mixed_Radices.l1 k y0 y1 y2) (mixed_Radices.l1 (k + 1) y0 y1 y2))
  | 0 => ⟨fun _ _ _ r h => by simp [mixed_Radices.l0] at h, fun _ _ _ r h => by simp [mixed_Radices.l1] at h⟩
  | k + 1 => by
    obtain ⟨ih0, ih1⟩ := mixed_Radices.mono_l k
    refine ⟨?_, ?_⟩
    · intro y0 y1 y2
      unfold mixed_Radices.l0
      exact LeO.ite (LeO.ite (ih1 _ _ _) (LeO.refl _)) (LeO.refl _)
    · intro y0 y1 y2
      unfold mixed_Radices.l1
      exact LeO.ite (LeO.ite (ih1 _ _ _) (LeO.refl _)) (ih0 _ _ _)
theorem mixed_Radices.mono : ∀ a0 k, LeO (mixed_Radices.f k a0) (mixed_Radices.f (k + 1) a0) := by
  intro a0 k
  unfold mixed_Radices.f
  exact LeO.ite (LeO.refl _) (LeO.ite (LeO.refl _) ((mixed_Radices.mono_l k).1 _ _ _))
set_option maxHeartbeats 8000000 in
set_option maxRecDepth 100000 in
theorem mixed_Radices.calls (k : Nat) (a0 : Int) (r1 : List Int) (r2 : Bool) (w : World) (h : mixed_Radices.f k a0 = some (r1, r2)) :
    Calls Tryz.prog 64 #[.int .i64 a0] w fun e w' => ∃ v0_ : Value, e = .returned (.tuple #[v0_, .bool r2]) ∧ Kd.R (Kd.int .i64) 3 w' w.heap.size (fun _ => True) v0_ r1 ∧ Below w.heap.size w w' := by
  have HB := Aside0.mk (Below.refl w.heap.size w)
  have HO := Aside0.mk (Kd.R_nil (Kd.int .i64) 3 w w.heap.size (fun _ => True))
  unfold mixed_Radices.f at h
  by_cases c1 : a0 < 1
  · rw [if_pos c1] at h
    have c1b : decide (a0 < 1) = true := decide_eq_true c1
    simp only [Option.some.injEq, Prod.mk.injEq] at h
    obtain ⟨rfl, rfl⟩ := h
    go_enter Tryz.func64, Tryz.ntmps64
    go_wp2
    go_ret2
    exact ⟨_, rfl, HO.out, HB.out⟩
  rw [if_neg c1] at h
  have c1b : decide (a0 < 1) = false := decide_eq_false c1
  by_cases c2 : a0 > 1024
  · rw [if_pos c2] at h
    have c2b : decide (1024 < a0) = true := decide_eq_true c2
    simp only [Option.some.injEq, Prod.mk.injEq] at h
    obtain ⟨rfl, rfl⟩ := h
    go_enter Tryz.func64, Tryz.ntmps64
    go_wp2
    go_ret2
    exact ⟨_, rfl, HO.out, HB.out⟩
  rw [if_neg c2] at h
  have c2b : decide (1024 < a0) = false := decide_eq_false c2
  have H' := Aside0.mk h
  clear h c1 c2
  go_enter Tryz.func64, Tryz.ntmps64
  go_wp2
  go_loopg [0, 4, 14] k (fun kq v0 v4 v14 w' => ∃ (x0 : Int) (x4 : List Int) (x14 : Int), v0 = .int .i64 x0 ∧ v14 = .int .i64 x14 ∧ Aside0 (mixed_Radices.l0 kq x0 x4 x14 = some (r1, r2)) ∧ Aside0 (kq ≤ k) ∧ Aside0 (Kd.R (Kd.int .i64) 3 w' w.heap.size (fun _ => True) v4 x4) ∧ Aside0 (Below w.heap.size w w'))
  case atStart => exact ⟨a0, [], 0, rfl, rfl, H', ⟨Nat.le_refl _⟩, HO, HB⟩
  case round =>
    clear H' HO HB c1b c2b
    obtain ⟨x0, x4, x14, rfl, rfl, HA, HK1, HO, HB⟩ := hrel
    cases gk with
    | zero => exact absurd HA.out (by simp [mixed_Radices.l0])
    | succ k1 =>
      have H := HA.out
      clear HA
      simp only [mixed_Radices.l0] at H
      by_cases c3 : x14 < 4
      · rw [if_pos c3] at H
        have c3b : decide (x14 < 4) = true := decide_eq_true c3
        by_cases c4 : 0 ≤ x14
        · rw [if_pos c4] at H
          have H' := Aside0.mk H
          clear H
          have hR : x14 = 0 ∨ x14 = 1 ∨ x14 = 2 ∨ x14 = 3 := by omega
          obtain ⟨r9, hr9⟩ : ∃ r_ : Int, rAt x14 = r_ := ⟨_, rfl⟩
          have p4 := eq_true c4
          have p3 := eq_true c3
          have hix : ∀ W, Sem.run Tryz.prog (Instr.index 151 (Value.agg #[Value.int IntKind.i64 2, Value.int IntKind.i64 3, Value.int IntKind.i64 5, Value.int IntKind.i64 7]) (Value.int IntKind.i64 x14)) W = .ok (Value.int IntKind.i64 r9) W := by
            intro W
            rw [← hr9]
            clear H' HK1 HO HB p3 p4 c3b
            rcases hR with rfl | rfl | rfl | rfl <;> (first | rfl | kernel_rfl | (go_simp; done) | (go_simp; rfl))
          have hr2 : 2 ≤ r9 := by rw [← hr9]; exact rAt_pos _
          have hr0 : ¬ r9 = 0 := by omega
          have hr0b : (r9 == 0) = false := beq_eq_false_iff_ne.mpr hr0
          clear c3 c4 hR
          go_wp2
          clear hix
          go_loopg [0, 4] k1 (fun kq v0 v4 w' => ∃ (x0 : Int) (x4 : List Int), v0 = .int .i64 x0 ∧ Aside0 (mixed_Radices.l1 kq x0 x4 x14 = some (r1, r2)) ∧ Aside0 (kq ≤ k1) ∧ Aside0 (Kd.R (Kd.int .i64) 3 w' w.heap.size (fun _ => True) v4 x4) ∧ Aside0 (Below w.heap.size w w'))
          case atStart => exact ⟨x0, x4, rfl, H', ⟨Nat.le_refl _⟩, HO, HB⟩
          case round =>
            clear H' HO HB c3b p4 p3
            obtain ⟨x0, x4, rfl, HA, HK2, HO, HB⟩ := hrel
            cases gk with
            | zero => exact absurd HA.out (by simp [mixed_Radices.l1])
            | succ k2 =>
              have H := HA.out
              clear HA
              simp only [mixed_Radices.l1] at H
              rw [hr9] at H
              by_cases c5 : Int.tmod x0 r9 = 0
              · rw [if_pos c5] at H
                have c5b : (Int.tmod x0 r9 == 0) = true := beq_iff_eq.mpr c5
                by_cases c6 : x4.length < 17592186044416
                · rw [if_pos c6] at H
                  have HL := Aside0.mk c6
                  have H' := Aside0.mk H
                  clear H c5 c6
                  go_wp2_with (first | ((with_reducible refine gate_builtin (b := .append) (xs := #[.tmp 21, .tmp 23]) rfl ?_); at_builtin; refine Kd.R_append (Kd.int .i64) (w0 := w) w.heap.size rfl (.tmp 21) (.tmp 23) 98 3 (.int .i64 0) 8 rfl Tryz.underlying98 info3 rfl (by decide) (by omega) u4 x4 r9 [.int .i64 r9] (fun _ => True) (fun _ => False) rfl rfl ?aP (fun _ hk => hk.elim) ?aF ?aO ?aB ?aS ?aL ?_; (case aP => exact rfl); (case aB => exact HB.out); (case aF => exact (fun _ _ => trivial)); (case aO => exact HO.out); (case aS => exact below_size HB.out); (case aL => have := HL.out; omega); intro v211 w13 ho hb hg hat; have n0_ := Aside0.mk (hb); have n1_ := Aside0.mk (ho); clear HB; clear HO; have HB := n0_; have HO := n1_; clear n0_ n1_; clear ho hb hg hat))
                  go_roundg k2
                  case measure => have := HK1.out; have := HK2.out; omega
                  case rel => exact ⟨(wrap64 (Int.tdiv x0 r9)), (x4 ++ [r9]), (by first | rfl | (simp; done) | (simp [*]; done)), H', ⟨by have := HK2.out; omega⟩, HO, HB⟩
                · rw [if_neg c6] at H
                  exact absurd H (by simp)
              · rw [if_neg c5] at H
                have c5b : (Int.tmod x0 r9 == 0) = false := beq_eq_false_iff_ne.mpr c5
                have H' := Aside0.mk H
                clear H c5
                go_wp2
                go_roundg k2
                case measure => have := HK1.out; have := HK2.out; omega
                case rel => exact ⟨x0, x4, (wrap64 (x14 + 1)), rfl, (by first | rfl | (simp; done) | (simp [*]; done)), H', ⟨by have := HK1.out; have := HK2.out; omega⟩, HO, HB⟩
        · rw [if_neg c4] at H
          exact absurd H (by simp)
      · rw [if_neg c3] at H
        have c3b : decide (x14 < 4) = false := decide_eq_false c3
        clear c3
        by_cases c5 : x0 > 1
        · rw [if_pos c5] at H
          have c5b : decide (1 < x0) = true := decide_eq_true c5
          simp only [Option.some.injEq, Prod.mk.injEq] at H
          obtain ⟨rfl, rfl⟩ := H
          go_wp2
          go_ret2
          exact ⟨_, rfl, Kd.R_nil _ _ _ _ _, HB.out⟩
        · rw [if_neg c5] at H
          have c5b : decide (1 < x0) = false := decide_eq_false c5
          simp only [Option.some.injEq, Prod.mk.injEq] at H
          obtain ⟨rfl, rfl⟩ := H
          go_wp2
          go_ret2
          exact ⟨_, rfl, HO.out, HB.out⟩
end Go.Proofs.YtndkmnjbjlfeaaaGreat.XM
end
section

end
