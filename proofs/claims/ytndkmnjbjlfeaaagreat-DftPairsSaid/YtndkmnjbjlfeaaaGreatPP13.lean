/- Parts of this claim's texts, packed by wip/tools/prune.py: what the proof does not reach is left out. -/
import Derived.Test.YtndkmnjbjlfeaaaGreatPP12
section
namespace Go.Proofs.YtndkmnjbjlfeaaaGreat.XK
open Go.RowKit Go.Proofs.YtndkmnjbjlfeaaaGreat.Given Go.Proofs.YtndkmnjbjlfeaaaGreat.Row05 Go.Proofs.YtndkmnjbjlfeaaaGreat.XS Go.Proofs.YtndkmnjbjlfeaaaGreat.XT Go.Proofs.YtndkmnjbjlfeaaaGreat.XR Go.Proofs.YtndkmnjbjlfeaaaGreat.F06 Go.Proofs.YtndkmnjbjlfeaaaGreatW.PrintWords Go.Proofs.YtndkmnjbjlfeaaaGreatW.PrintLast Go.Proofs.YtndkmnjbjlfeaaaGreatW.PrintMore
attribute [local go_sem] max2_int min2_int max_two min_two max_three min_three max_four min_four   -- for this text's walks alone
set_option linter.unusedVariables false
set_option linter.unusedSimpArgs false
noncomputable def field_Small.f (k : Nat) (a0 : Int) : Option ((List (Fld)) × Int) := (sieve_Row.f k a0).bind fun bt101 => (if bt101.2 = 0 then ((field_New.f k bt101.1 a0).bind fun bt105 => (some (bt105.1, bt105.2))) else (some (([] : List (Fld)), bt101.2)))
set_option maxHeartbeats 8000000 in
set_option maxRecDepth 100000 in
theorem field_Small.calls (k : Nat) (a0 : Int) (r1 : List (Fld)) (r2 : Int) (w : World) (h : field_Small.f k a0 = some (r1, r2)) :
  Calls Tryz.prog 48 #[.int .u64 a0] w fun e w' => ∃ v0_ : Value, e = .returned (.tuple #[toPtr v0_, .int .i64 r2]) ∧ Kd.R kFld 97 w' w.heap.size (fun _ => True) v0_ r1 ∧ Below w.heap.size w w' := by
 have HB := Aside0.mk (Below.refl w.heap.size w)
 have H := h; unfold field_Small.f at H
 clear h
 replace H := Option.bind_eq_some_iff.mp H
 obtain ⟨⟨t101, t102⟩, A20, H⟩ := H
 (try dsimp only at H)
 have A2 := Aside0.mk A20
 clear A20
 by_cases c3 : t102 = 0
 ·rw [if_pos c3] at H
  have c3b0 := beq_iff_eq.mpr c3
  have c3b1 := bne_eq_false_iff_eq.mpr c3
  clear c3
  replace H := Option.bind_eq_some_iff.mp H
  obtain ⟨⟨t105, t106⟩, A40, H⟩ := H
  (try dsimp only at H)
  have A4 := Aside0.mk A40
  clear A40
  simp only [Option.some.injEq, Prod.mk.injEq] at H
  obtain ⟨rfl, rfl⟩ := H
  go_enter Tryz.func48, Tryz.ntmps48
  go_wp2_with (first | ((with_reducible refine gate_callee (f := 88) rfl ?_); refine goesL_ (some 8) rfl rfl Tryz.func88 (by kernel_rfl) rfl #[.int .u64 a0] rfl (by (try simp only [List.map_toArray, List.map_cons, List.map_nil]); first | done | rfl | (simp only [List.length_drop, List.length_take]; rfl)) ?_; (with_reducible refine (sieve_Row.calls k a0 t101 t102 _ A2.out).mono ?_); rintro e w5 ⟨v103, rfl, ho0, hb⟩; refine ⟨_, rfl, ?_⟩; have n0_ := Aside0.mk (Kd.S_lower ho0 (below_size bel_)); have n1_ := Aside0.mk (below_step bel_ hb); clear HB; have HO104 := n0_; have HB := n1_; clear n0_ n1_; (try clear hb); (try clear hb2); (try clear hk); (try clear hi); (try clear ho0); obtain ⟨Ao6, co6, eo6⟩ := Kd.S_slice HO104.out; subst eo6) | ((with_reducible refine gate_callee (f := 51) rfl ?_); refine goesL_ (some 16) rfl rfl Tryz.func51 (by kernel_rfl) rfl #[.slice Ao6 t101.length co6, .int .u64 a0] rfl (by (try simp only [List.map_toArray, List.map_cons, List.map_nil]); first | done | rfl | (simp only [List.length_drop, List.length_take]; rfl)) ?_; (with_reducible refine (field_New.calls k _ _ t101 a0 t105 t106 _ ?side1 ?side2 A4.out).mono ?_); (case side1 => repeat (first | exact (Kd.S_reads' HO104.out).2.2 | (with_reducible refine Kd.C_alloc ?_ _) | (with_reducible refine Kd.C_drewN ?_ _) | (with_reducible refine Kd.C_drew ?_))); (case side2 => exact (Kd.S_reads' HO104.out).2.1); rintro e w7 ⟨v107, rfl, ho0, hb⟩; refine ⟨_, rfl, ?_⟩; have n0_ := Aside0.mk (Kd.S_below (by (with_reducible repeat (first | apply Kd.S_alloc | apply Kd.S_drewN | apply Kd.S_drew)); exact HO104.out) hb); have n1_ := Aside0.mk (Kd.R_lower ho0 (below_size bel_)); have n2_ := Aside0.mk (below_step bel_ hb); clear HO104; clear HB; have HO104 := n0_; have HO108 := n1_; have HB := n2_; clear n0_ n1_ n2_; (try clear hb); (try clear hb2); (try clear hk); (try clear hi); (try clear ho0)))
  go_ret2
  exact ⟨_, by first | rfl | (simp [errW_none, errW_some] <;> rfl) | (simp [*, errW_none, errW_some] <;> rfl), by (with_reducible repeat (first | apply Kd.R_alloc | apply Kd.R_drewN | apply Kd.R_drew)); exact HO108.out, bel_⟩
 ·rw [if_neg c3] at H
  have c3b0 := beq_eq_false_iff_ne.mpr c3
  have c3b1 := bne_iff_ne.mpr c3
  simp only [Option.some.injEq, Prod.mk.injEq] at H
  obtain ⟨rfl, rfl⟩ := H
  go_enter Tryz.func48, Tryz.ntmps48
  go_wp2_with (first | ((with_reducible refine gate_callee (f := 88) rfl ?_); refine goesL_ (some 8) rfl rfl Tryz.func88 (by kernel_rfl) rfl #[.int .u64 a0] rfl (by (try simp only [List.map_toArray, List.map_cons, List.map_nil]); first | done | rfl | (simp only [List.length_drop, List.length_take]; rfl)) ?_; (with_reducible refine (sieve_Row.calls k a0 t101 t102 _ A2.out).mono ?_); rintro e w8 ⟨v103, rfl, ho0, hb⟩; refine ⟨_, rfl, ?_⟩; have n0_ := Aside0.mk (Kd.S_lower ho0 (below_size bel_)); have n1_ := Aside0.mk (below_step bel_ hb); clear HB; have HO104 := n0_; have HB := n1_; clear n0_ n1_; (try clear hb); (try clear hb2); (try clear hk); (try clear hi); (try clear ho0)))
  go_ret2
  exact ⟨(.slice none 0 0), by first | rfl | (simp [errW_none, errW_some] <;> rfl) | (simp [*, errW_none, errW_some] <;> rfl), by first | exact Kd.R_nil _ _ _ _ _ | exact Kd.N_nil _ _ _ _ _ | exact Kd.V_nil _ _ _ _ _ | exact Kd.Q_nil _ _ _ _ _ | exact Kd.S_nil _ _ _ _ _, bel_⟩
noncomputable def field_Known.f (k : Nat) (a0 : Int) : Option ((List (Fld)) × Int) := (field_known.f a0).bind fun bt109 => (if bt109.2 = 0 then (some (([] : List (Fld)), 1)) else ((field_New.f k bt109.1 bt109.2).bind fun bt113 => (some (bt113.1, bt113.2))))
set_option maxHeartbeats 8000000 in
set_option maxRecDepth 100000 in
theorem field_Known.calls (k : Nat) (a0 : Int) (r1 : List (Fld)) (r2 : Int) (w : World) (h : field_Known.f k a0 = some (r1, r2)) :
  Calls Tryz.prog 50 #[.int .i64 a0] w fun e w' => ∃ v0_ : Value, e = .returned (.tuple #[toPtr v0_, .int .i64 r2]) ∧ Kd.R kFld 97 w' w.heap.size (fun _ => True) v0_ r1 ∧ Below w.heap.size w w' := by
 have HB := Aside0.mk (Below.refl w.heap.size w)
 have H := h; unfold field_Known.f at H
 clear h
 replace H := Option.bind_eq_some_iff.mp H
 obtain ⟨⟨t109, t110⟩, A20, H⟩ := H
 (try dsimp only at H)
 have A2 := Aside0.mk A20
 clear A20
 by_cases c3 : t110 = 0
 ·rw [if_pos c3] at H
  have c3b0 := beq_iff_eq.mpr c3
  have c3b1 := bne_eq_false_iff_eq.mpr c3
  clear c3
  simp only [Option.some.injEq, Prod.mk.injEq] at H
  obtain ⟨rfl, rfl⟩ := H
  go_enter Tryz.func50, Tryz.ntmps50
  go_wp2_with (first | ((with_reducible refine gate_callee (f := 92) rfl ?_); refine goesL_ (some 8) rfl rfl Tryz.func92 (by kernel_rfl) rfl #[.int .i64 a0] rfl (by (try simp only [List.map_toArray, List.map_cons, List.map_nil]); first | done | rfl | (simp only [List.length_drop, List.length_take]; rfl)) ?_; (with_reducible refine (field_known.calls a0 t109 t110 _ A2.out).mono ?_); rintro e w4 ⟨v111, rfl, ho0, hb⟩; refine ⟨_, rfl, ?_⟩; have n0_ := Aside0.mk (Kd.S_lower ho0 (below_size bel_)); have n1_ := Aside0.mk (below_step bel_ hb); clear HB; have HO112 := n0_; have HB := n1_; clear n0_ n1_; (try clear hb); (try clear hb2); (try clear hk); (try clear hi); (try clear ho0)))
  go_ret2
  exact ⟨(.slice none 0 0), by first | rfl | (simp [errW_none, errW_some] <;> rfl) | (simp [*, errW_none, errW_some] <;> rfl), by first | exact Kd.R_nil _ _ _ _ _ | exact Kd.N_nil _ _ _ _ _ | exact Kd.V_nil _ _ _ _ _ | exact Kd.Q_nil _ _ _ _ _ | exact Kd.S_nil _ _ _ _ _, bel_⟩
 ·rw [if_neg c3] at H
  have c3b0 := beq_eq_false_iff_ne.mpr c3
  have c3b1 := bne_iff_ne.mpr c3
  replace H := Option.bind_eq_some_iff.mp H
  obtain ⟨⟨t113, t114⟩, A50, H⟩ := H
  (try dsimp only at H)
  have A5 := Aside0.mk A50
  clear A50
  simp only [Option.some.injEq, Prod.mk.injEq] at H
  obtain ⟨rfl, rfl⟩ := H
  go_enter Tryz.func50, Tryz.ntmps50
  go_wp2_with (first | ((with_reducible refine gate_callee (f := 92) rfl ?_); refine goesL_ (some 8) rfl rfl Tryz.func92 (by kernel_rfl) rfl #[.int .i64 a0] rfl (by (try simp only [List.map_toArray, List.map_cons, List.map_nil]); first | done | rfl | (simp only [List.length_drop, List.length_take]; rfl)) ?_; (with_reducible refine (field_known.calls a0 t109 t110 _ A2.out).mono ?_); rintro e w6 ⟨v111, rfl, ho0, hb⟩; refine ⟨_, rfl, ?_⟩; have n0_ := Aside0.mk (Kd.S_lower ho0 (below_size bel_)); have n1_ := Aside0.mk (below_step bel_ hb); clear HB; have HO112 := n0_; have HB := n1_; clear n0_ n1_; (try clear hb); (try clear hb2); (try clear hk); (try clear hi); (try clear ho0); obtain ⟨Ao7, co7, eo7⟩ := Kd.S_slice HO112.out; subst eo7) | ((with_reducible refine gate_callee (f := 51) rfl ?_); refine goesL_ (some 15) rfl rfl Tryz.func51 (by kernel_rfl) rfl #[.slice Ao7 t109.length co7, .int .u64 t110] rfl (by (try simp only [List.map_toArray, List.map_cons, List.map_nil]); first | done | rfl | (simp only [List.length_drop, List.length_take]; rfl)) ?_; (with_reducible refine (field_New.calls k _ _ t109 t110 t113 t114 _ ?side1 ?side2 A5.out).mono ?_); (case side1 => repeat (first | exact (Kd.S_reads' HO112.out).2.2 | (with_reducible refine Kd.C_alloc ?_ _) | (with_reducible refine Kd.C_drewN ?_ _) | (with_reducible refine Kd.C_drew ?_))); (case side2 => exact (Kd.S_reads' HO112.out).2.1); rintro e w8 ⟨v115, rfl, ho0, hb⟩; refine ⟨_, rfl, ?_⟩; have n0_ := Aside0.mk (Kd.S_below (by (with_reducible repeat (first | apply Kd.S_alloc | apply Kd.S_drewN | apply Kd.S_drew)); exact HO112.out) hb); have n1_ := Aside0.mk (Kd.R_lower ho0 (below_size bel_)); have n2_ := Aside0.mk (below_step bel_ hb); clear HO112; clear HB; have HO112 := n0_; have HO116 := n1_; have HB := n2_; clear n0_ n1_ n2_; (try clear hb); (try clear hb2); (try clear hk); (try clear hi); (try clear ho0)))
  go_ret2
  exact ⟨_, by first | rfl | (simp [errW_none, errW_some] <;> rfl) | (simp [*, errW_none, errW_some] <;> rfl), by (with_reducible repeat (first | apply Kd.R_alloc | apply Kd.R_drewN | apply Kd.R_drew)); exact HO116.out, bel_⟩
end Go.Proofs.YtndkmnjbjlfeaaaGreat.XK
end
section
namespace Go.Proofs.YtndkmnjbjlfeaaaGreat.F06
open Go Go.RowKit Go.Proofs.YtndkmnjbjlfeaaaGreatW.PrintWords Go.Proofs.YtndkmnjbjlfeaaaGreatW.PrintLast Go.Proofs.YtndkmnjbjlfeaaaGreatW.PrintMore Go.Proofs.YtndkmnjbjlfeaaaGreat.Given Go.Proofs.YtndkmnjbjlfeaaaGreat.M Go.Proofs.YtndkmnjbjlfeaaaGreat.Mont Go.Proofs.YtndkmnjbjlfeaaaGreat.XS Go.Proofs.YtndkmnjbjlfeaaaGreat.XT Go.Proofs.YtndkmnjbjlfeaaaGreat.XR Go.Proofs.YtndkmnjbjlfeaaaGreat.Given04 Go.Proofs.YtndkmnjbjlfeaaaGreat.Given05 Go.Proofs.YtndkmnjbjlfeaaaGreat.Num
open Go.Proofs.YtndkmnjbjlfeaaaGreat.XK
open Go.Proofs.YtndkmnjbjlfeaaaGreat.Row05 (OddN gen facs entS row_ev row_not row_check row_okE gen_least)
abbrev PE := S94
abbrev RE := S134
def GoodFld (F : Fld) : Prop := ∃ (A : Int → Bool) (prev : Option Int), rightS A prev F.p F.g (F.l.map p59) = true ∧ Ordered F.p F.g ∧ okE (F.p, F.g, F.l.map p59)
theorem Ev.unique {α : Type} {g : Nat → Option α} {r s : α} (h : Ev g r) (h' : Ev g s) : r = s := by
  obtain ⟨K, h⟩ := h
  obtain ⟨K', h'⟩ := h'
  have h1 := h (max K K') (Nat.le_max_left _ _)
  have h2 := h' (max K K') (Nat.le_max_right _ _)
  rw [h1] at h2
  exact Option.some.inj h2
theorem rdE_drop {R : List PE} {i : Nat} {x : PE} {l : List PE} (h : R.drop i = x :: l) : rd_T94 R (i : Int) = x ∧ i < R.length ∧ R.drop (i + 1) = l := by
  have hlt : i < R.length := by
    refine Classical.byContradiction fun c => ?_
    rw [List.drop_of_length_le (by omega)] at h
    cases h
  rw [List.drop_eq_getElem_cons hlt] at h
  injection h with h1 h2
  refine ⟨?_, hlt, h2⟩
  unfold rd_T94
  simp [List.getD, List.getElem?_eq_getElem hlt, h1]
def foundP (R : List PE) (p : Int) : Int × Int × List S147 × Bool :=
  match R.find? (fun e => e.f0 == p) with
  | some e => (e.f0, e.f1, e.f2, true)
  | none => (0, 0, [], false)
theorem claimP_l0 {R : List PE} {p : Int} (hL : R.length ≤ 1000) (hs : ∀ e ∈ R, e.f2.length ≤ 1000000) (l : List PE) : ∀ i : Nat, R.drop i = l →
    Ev (fun k => proof_Claim.l0 k p R (R.length : Int) i) (foundP l p) := by
  induction l with
  | nil =>
    intro i hd
    have : R.length ≤ i := by have := congrArg List.length hd; simp at this; omega
    have c : ¬ (i : Int) < (R.length : Int) := by omega
    refine Ev.step (f := fun _ => some (0, 0, [], false)) (fun k => ?_) (Ev.now _)
    simp only [proof_Claim.l0]
    rw [if_neg c]
  | cons x l ih =>
    intro i hd
    obtain ⟨hx, hlt, hd'⟩ := rdE_drop hd
    have hxm : x ∈ R := List.mem_of_mem_drop (show x ∈ R.drop i by rw [hd]; exact List.mem_cons_self)
    have c : (i : Int) < (R.length : Int) := by omega
    have c0 : 0 ≤ (i : Int) := by omega
    have w : wrap64 ((i : Int) + 1) = ((i + 1 : Nat) : Int) := by rw [w64_id _ (by omega) (by omega)]; omega
    have hcl := hs x hxm
    by_cases h : x.f0 = p
    · have e : foundP (x :: l) p = (x.f0, x.f1, x.f2, true) := by unfold foundP; rw [List.find?_cons, beq_iff_eq.2 h]
      rw [e]
      refine Ev.step (f := fun _ => some (x.f0, x.f1, x.f2, true)) (fun k => ?_) (Ev.now _)
      simp only [proof_Claim.l0]
      rw [if_pos c, if_pos c0, if_pos c, hx, if_pos h, proof_Power.f, if_pos hcl, Option.bind_some]
    · have e : foundP (x :: l) p = foundP l p := by unfold foundP; rw [List.find?_cons, beq_eq_false_iff_ne.2 h]
      rw [e]
      refine Ev.step (fun k => ?_) (ih (i + 1) hd')
      simp only [proof_Claim.l0]
      rw [if_pos c, if_pos c0, if_pos c, hx, if_neg h, w]
theorem check_facts {R : List PE} (h : (checkS (R.map tri)).2 = 0) : (∀ j, j < R.length → rightAt (R.map tri) j = true) ∧ R.length ≤ 32 := by
  unfold checkS at h
  rw [List.length_map] at h
  split at h
  · exact absurd h (by decide)
  · exact ⟨fun j hj => firstBad_ok _ 0 h j (by omega) (by omega), by omega⟩
theorem whole_short {A : Int → Bool} {P : Int} {l : List (Int × Int)} (h : wholeS A P l = true) : l.length ≤ 16 := by
  cases l with
  | nil => simp
  | cons x t =>
    rw [wholeS_cons] at h
    simp only [Bool.and_eq_true, decide_eq_true_eq] at h
    exact h.1.1.1
theorem entry_good {R : List PE} (hok : ∀ e ∈ R.map tri, okE e) (h : (checkS (R.map tri)).2 = 0) {e : PE} (he : e ∈ R) : GoodFld ⟨e.f0, e.f1, e.f2⟩ := by
  obtain ⟨i, hi, rfl⟩ := List.mem_iff_getElem.1 he
  have hr := (check_facts h).1 i hi
  have hg : (R.map tri)[i]? = some (tri R[i]) := by rw [List.getElem?_map, List.getElem?_eq_getElem hi]; rfl
  unfold rightAt at hr
  rw [hg] at hr
  exact ⟨_, _, hr, check_ordered h hg, hok _ (List.mem_map_of_mem (List.getElem_mem hi))⟩
theorem GoodFld.fits {F : Fld} (h : GoodFld F) : fits F.p F.g := by
  obtain ⟨A, prev, h, _⟩ := h
  unfold rightS at h
  simp only [Bool.and_eq_true, decide_eq_true_eq] at h
  exact h.1.1
theorem GoodFld.m {F : Fld} (h : GoodFld F) : GoodM F.p := ⟨h.fits.1, h.fits.2.1, h.fits.2.2.1⟩
theorem GoodFld.ord {F : Fld} (h : GoodFld F) : Ordered F.p F.g := by
  obtain ⟨A, prev, _, h, _⟩ := h
  exact h
theorem GoodFld.whole {F : Fld} (h : GoodFld F) : ∃ A, wholeS A F.p (F.l.map p59) = true := by
  obtain ⟨A, prev, h, _⟩ := h
  unfold rightS at h
  simp only [Bool.and_eq_true] at h
  exact ⟨A, h.2.1⟩
theorem GoodFld.short {F : Fld} (h : GoodFld F) : F.l.length ≤ 16 := by
  obtain ⟨A, h⟩ := h.whole
  have := whole_short h
  rwa [List.length_map] at this
theorem GoodFld.uG {F : Fld} (h : GoodFld F) : U F.g := by
  obtain ⟨_, _, _, _, _, h, _⟩ := h
  exact h
def newS (R : List PE) (p : Int) : List Fld × Int :=
  if (checkS (R.map tri)).2 = 0 then (match R.find? (fun e => e.f0 == p) with | some e => ([⟨e.f0, e.f1, e.f2⟩], 0) | none => ([], 14)) else ([], (checkS (R.map tri)).2)
theorem new_ev {R : List PE} (hok : ∀ e ∈ R.map tri, okE e) (p : Int) : Ev (fun k => field_New.f k R p) (newS R p) := by
  have C := check_ev R hok
  refine Ev.congr (fun k => rfl) (Ev.bind C ?_)
  unfold newS
  by_cases hz : (checkS (R.map tri)).2 = 0
  · rw [if_pos hz]
    refine evP hz ?_
    obtain ⟨hr, hl⟩ := check_facts hz
    have hs : ∀ e ∈ R, e.f2.length ≤ 1000000 := fun e he => by
      have := (entry_good hok hz he).short
      have : e.f2.length ≤ 16 := this
      omega
    refine Ev.bind (Ev.congr (f := fun k => (proof_Check.f k R).bind fun c => if c.2 = 0 then proof_Claim.l0 k p R (R.length : Int) 0 else some (0, 0, [], false)) (fun k => rfl) (Ev.bind C (evP hz (claimP_l0 (by omega) hs R 0 rfl)))) ?_
    unfold foundP
    cases hf : R.find? (fun e => e.f0 == p) with
    | none => exact evN (by simp) (Ev.now _)
    | some e =>
      have he := List.mem_of_find?_eq_some hf
      have hp : e.f0 = p := by have := List.find?_some hf; simpa using this
      have hg := entry_good hok hz he
      refine evP rfl (evP ⟨hp, ?_, ?_⟩ (Ev.now _))
      · rw [← hp]; exact hg.m
      · exact hg.uG
  · rw [if_neg hz]
    exact evN hz (Ev.now _)
theorem newS_cases {R : List PE} (hok : ∀ e ∈ R.map tri, okE e) (p : Int) : (∃ e, e ≠ 0 ∧ newS R p = ([], e)) ∨ ∃ F, newS R p = ([F], 0) ∧ GoodFld F ∧ F.p = p := by
  unfold newS
  by_cases hz : (checkS (R.map tri)).2 = 0
  · rw [if_pos hz]
    cases hf : R.find? (fun e => e.f0 == p) with
    | none => exact .inl ⟨14, by decide, rfl⟩
    | some e =>
      have he := List.mem_of_find?_eq_some hf
      have hp : e.f0 = p := by have := List.find?_some hf; simpa using this
      exact .inr ⟨_, rfl, entry_good hok hz he, hp⟩
  · rw [if_neg hz]
    exact .inl ⟨_, hz, rfl⟩
theorem row_checkS {p : Nat} {ss : List Nat} (h : Row05.Rows p ss) : checkS ((ss.map entS).map tri) = (0, 0) :=
  Ev.unique (check_ev (ss.map entS) (row_okE h)) (row_check h)
theorem small_new {p : Nat} {ss : List Nat} (h : Row05.Rows p ss) : newS (ss.map entS) (p : Int) = ([⟨(p : Int), (gen p : Int), m33 (facs p)⟩], 0) := by
  unfold newS
  rw [row_checkS h, if_pos rfl]
  cases hf : (ss.map entS).find? (fun e => e.f0 == (p : Int)) with
  | none =>
    have := List.find?_eq_none.1 hf (entS p) (List.mem_map_of_mem h.mem)
    exact absurd (beq_self_eq_true ((p : Int))) this
  | some e =>
    have he := List.mem_of_find?_eq_some hf
    have hp := List.find?_some hf
    obtain ⟨q, hq, rfl⟩ := List.mem_map.1 he
    have hp : ((q : Int) == (p : Int)) = true := hp
    rw [beq_iff_eq] at hp
    obtain rfl : q = p := by omega
    rfl
open Classical in
theorem small_odd {x : Int} (h : OddP x) : ∃ F, Ev (fun k => field_Small.f k x) ([F], 0) ∧ Ev (fun k => epicycleref05_Generator.f k x) F.g ∧ F.p = x ∧ GoodFld F := by
  obtain ⟨p, rfl⟩ : ∃ p : Nat, x = p := ⟨x.toNat, by have := h.1; omega⟩
  have hn := OddN.of h
  obtain ⟨ss, hr, R⟩ := row_ev hn
  have hnew := small_new hr
  have E := new_ev (row_okE hr) (p : Int)
  rcases newS_cases (row_okE hr) (p : Int) with ⟨e, he, h1⟩ | ⟨F, h1, hg, hp⟩
  · rw [hnew] at h1; injection h1 with h1 _; cases h1
  · rw [h1] at hnew E
    injection hnew with h2 _
    injection h2 with h2 _
    refine ⟨F, Ev.congr (fun k => rfl) (Ev.bind R (evP rfl (Ev.bind E (Ev.now _)))), ?_, hp, hg⟩
    rw [h2]
    exact rGenerator_odd h (gen_least hn)
theorem small_not {x : Int} (h : ¬ OddP x) : Ev (fun k => field_Small.f k x) ([], 1) :=
  Ev.congr (fun k => rfl) (Ev.bind (row_not h) (evN (by decide) (Ev.now _)))
def powm (P : Nat) : Nat → Nat → Nat → Nat
  | 0, _, _ => 1 % P
  | n + 1, g, e => if e = 0 then 1 % P else if e % 2 = 1 then g * powm P n (g * g % P) (e / 2) % P else powm P n (g * g % P) (e / 2)
theorem powm_eq {P : Nat} (n : Nat) : ∀ g e, e < 2 ^ n → powm P n g e = g ^ e % P := by
  induction n with
  | zero => intro g e h; have : e = 0 := by simpa using h
            subst this; rfl
  | succ n ih =>
    intro g e h
    unfold powm
    have hq : e / 2 < 2 ^ n := by rw [Nat.pow_succ] at h; omega
    have hs : (g * g % P) ^ (e / 2) % P = g ^ (2 * (e / 2)) % P := by rw [← Nat.pow_mod, ← Nat.pow_two, ← Nat.pow_mul]
    split
    · next h0 => subst h0; rfl
    · split
      · next h1 =>
        rw [ih _ _ hq, hs, Nat.mul_mod, Nat.mod_mod, ← Nat.mul_mod, ← Nat.pow_succ', show (2 * (e / 2)).succ = e by omega]
      · next h1 => rw [ih _ _ hq, hs, show 2 * (e / 2) = e by omega]
def fullQ (P G : Nat) (l : List Nat) : Bool := (powm P 64 G (P - 1) == 1) && !(l.any fun x => powm P 64 G ((P - 1) / x) == 1)
theorem pow_castq {G P n : Nat} : (((G : Int) ^ n % (P : Int)) == 1) = (G ^ n % P == 1) := by
  rw [Bool.eq_iff_iff, beq_iff_eq, beq_iff_eq]
  exact pow_cast G P n
theorem fullQ_S {P G : Nat} {l : List (Nat × Nat)} (h1 : 1 ≤ P) (hP : P < 9223372036854775808) (h : fullQ P G (l.map (·.1)) = true) : fullS (P : Int) (G : Int) (l.map fun x => ((x.1 : Int), (x.2 : Int))) = true := by
  unfold fullQ at h
  unfold fullS
  have e1 : ((P : Int) - 1).toNat = P - 1 := by omega
  have c : (fun x : Nat × Nat => powm P 64 G ((P - 1) / x.1) == 1) = fun x : Nat × Nat => ((G : Int) ^ (((P : Int) - 1) / (x.1 : Int)).toNat % (P : Int) == 1) := by
    funext x
    have : ((P : Int) - 1) / (x.1 : Int) = (((P - 1) / x.1 : Nat) : Int) := by rw [Int.natCast_ediv]; congr 1; omega
    rw [this, Int.toNat_natCast, pow_castq, powm_eq 64 _ _ (Nat.lt_of_le_of_lt (Nat.div_le_self _ _) (by omega))]
  rw [List.any_map] at h
  rw [e1, pow_castq, List.any_map, ← powm_eq 64 _ _ (by omega)]
  simp only [Function.comp_def] at h ⊢
  rw [← c]
  exact h
def rightQ (L : List PE) (i : Nat) : Bool :=
  match L[i]? with
  | none => false
  | some e => (decide (fits e.f0 e.f1) && (match ((L.map tri).take i).getLast?.map fun a => a.1 with | none => true | some q => decide (q < e.f0))) && (wholeS (fun q => ((L.map tri).take i).any fun a => a.1 == q) e.f0 (e.f2.map p59) && (fullQ e.f0.toNat e.f1.toNat (e.f2.map fun x => x.f0.toNat) && decide (∀ x ∈ e.f2, 0 ≤ x.f0 ∧ 0 ≤ x.f1)))
theorem rightQ_S {L : List PE} {i : Nat} (h : rightQ L i = true) : rightAt (L.map tri) i = true := by
  unfold rightQ at h
  unfold rightAt
  rw [List.getElem?_map]
  cases he : L[i]? with
  | none => rw [he] at h; cases h
  | some e =>
    rw [he] at h
    simp only [Bool.and_eq_true] at h
    obtain ⟨⟨h1, h2⟩, h3, h4, h5⟩ := h
    have hf : fits e.f0 e.f1 := of_decide_eq_true h1
    unfold fits at hf
    have h5 := of_decide_eq_true h5
    show rightS _ _ e.f0 e.f1 (e.f2.map p59) = true
    unfold rightS
    rw [h1, h3, Bool.true_and, Bool.true_and]
    refine Bool.and_eq_true_iff.2 ⟨h2, ?_⟩
    have := fullQ_S (P := e.f0.toNat) (G := e.f1.toNat) (l := e.f2.map fun x => (x.f0.toNat, x.f1.toNat)) (by omega) (by omega) (by rw [List.map_map]; exact h4)
    rw [Int.toNat_of_nonneg (by omega), Int.toNat_of_nonneg (by omega), List.map_map] at this
    rw [← this]
    congr 1
    refine List.map_congr_left fun x hx => ?_
    obtain ⟨a, b⟩ := h5 x hx
    show (x.f0, x.f1) = (((x.f0.toNat : Nat) : Int), ((x.f1.toNat : Nat) : Int))
    rw [Int.toNat_of_nonneg a, Int.toNat_of_nonneg b]
theorem firstBad_all {r : Nat → Bool} : ∀ (d i : Nat), (∀ j, i ≤ j → j < i + d → r j = true) → firstBad r d i = (0, 0)
  | 0, _, _ => rfl
  | d + 1, i, h => by
    unfold firstBad
    rw [h i (by omega) (by omega), if_pos rfl]
    exact firstBad_all d (i + 1) fun j h1 h2 => h j (by omega) (by omega)
def okQ (e : PE) : Bool := decide (U e.f0) && (decide (U e.f1) && decide (∀ x ∈ e.f2, U x.f0 ∧ -9223372036854775808 ≤ x.f1 ∧ x.f1 < 9223372036854775808))
theorem okQ_E {L : List PE} (h : L.all okQ = true) : ∀ e ∈ L.map tri, okE e := by
  intro e he
  obtain ⟨x, hx, rfl⟩ := List.mem_map.1 he
  have := List.all_eq_true.1 h x hx
  unfold okQ at this
  simp only [Bool.and_eq_true, decide_eq_true_eq] at this
  refine ⟨this.1, this.2.1, fun y hy => ?_⟩
  obtain ⟨z, hz, rfl⟩ := List.mem_map.1 hy
  exact this.2.2 z hz
theorem known_at {L : List PE} {p g : Int} {l : List S147} (hn : L.length ≤ 32) (hr : (List.range L.length).all (rightQ L) = true) (hok : L.all okQ = true) (hf : L.find? (fun e => e.f0 == p) = some ⟨p, g, l⟩) :
    Ev (fun k => field_New.f k L p) ([⟨p, g, l⟩], 0) ∧ GoodFld ⟨p, g, l⟩ := by
  have hz : checkS (L.map tri) = (0, 0) := by
    unfold checkS
    rw [List.length_map, if_neg (by omega)]
    refine firstBad_all _ _ fun j _ hj => rightQ_S ?_
    exact List.all_eq_true.1 hr j (List.mem_range.2 (by omega))
  have e : newS L p = ([⟨p, g, l⟩], 0) := by
    unfold newS
    rw [hz, if_pos rfl, hf]
  have E := new_ev (okQ_E hok) p
  rw [e] at E
  exact ⟨E, entry_good (okQ_E hok) (by rw [hz]) (List.mem_of_find?_eq_some hf)⟩
theorem known_ev {i : Int} (h0 : 0 ≤ i) (h5 : i ≤ 5) : ∃ F, Ev (fun k => field_Known.f k i) ([F], 0) ∧ knownT i = (F.p, F.g, 0) ∧ GoodFld F := by
  have go : ∀ {L : List PE} {p g : Int} {l : List S147}, field_known.f i = some (L, p) → ¬ p = 0 → knownT i = (p, g, 0) → L.length ≤ 32 → (List.range L.length).all (rightQ L) = true → L.all okQ = true → L.find? (fun e => e.f0 == p) = some ⟨p, g, l⟩ → ∃ F, Ev (fun k => field_Known.f k i) ([F], 0) ∧ knownT i = (F.p, F.g, 0) ∧ GoodFld F := by
    intro L p g l hk hp hT hn hr hok hf
    obtain ⟨E, hg⟩ := known_at hn hr hok hf
    refine ⟨⟨p, g, l⟩, ?_, hT, hg⟩
    refine Ev.congr (f := fun k => (field_New.f k L p).bind fun r => some (r.1, r.2)) (fun k => ?_) (Ev.bind E (Ev.now _))
    unfold field_Known.f
    rw [hk]
    simp only [Option.bind_some]
    rw [if_neg hp]
  rcases (show i = 0 ∨ i = 1 ∨ i = 2 ∨ i = 3 ∨ i = 4 ∨ i = 5 by omega) with rfl | rfl | rfl | rfl | rfl | rfl
  · exact go (L := known0) (p := 4179340454199820289) (g := 3) (l := [⟨2, 57⟩, ⟨29, 1⟩]) rfl (by decide) rfl (by decide) (by decide +kernel) (by decide +kernel) rfl
  · exact go (L := known1) (p := 1945555039024054273) (g := 5) (l := [⟨2, 56⟩, ⟨3, 3⟩]) rfl (by decide) rfl (by decide) (by decide +kernel) (by decide +kernel) rfl
  · exact go (L := known2) (p := 180143985094819841) (g := 6) (l := [⟨2, 55⟩, ⟨5, 1⟩]) rfl (by decide) rfl (by decide) (by decide +kernel) (by decide +kernel) rfl
  · exact go (L := known3) (p := 754974721) (g := 11) (l := [⟨2, 24⟩, ⟨3, 2⟩, ⟨5, 1⟩]) rfl (by decide) rfl (by decide) (by decide +kernel) (by decide +kernel) rfl
  · exact go (L := known4) (p := 469762049) (g := 3) (l := [⟨2, 26⟩, ⟨7, 1⟩]) rfl (by decide) rfl (by decide) (by decide +kernel) (by decide +kernel) rfl
  · exact go (L := known5) (p := 167772161) (g := 3) (l := [⟨2, 25⟩, ⟨5, 1⟩]) rfl (by decide) rfl (by decide) (by decide +kernel) (by decide +kernel) rfl
theorem known_not {i : Int} (h : ¬ (0 ≤ i ∧ i ≤ 5)) : Ev (fun k => field_Known.f k i) ([], 1) := by
  have hk : field_known.f i = some ([], 0) := by
    unfold field_known.f
    rw [if_neg (by omega), if_neg (by omega), if_neg (by omega), if_neg (by omega), if_neg (by omega), if_neg (by omega)]
  refine Ev.congr (f := fun _ => some ([], 1)) (fun k => ?_) (Ev.now _)
  unfold field_Known.f
  rw [hk]
  rfl
def ofNew (L : List RE) (p : Int) : Int × Int × Int :=
  if (L.length : Int) > 40 then (0, 0, 13) else if (L.any fun e => decide ((e.f2.length : Int) > 20)) = true then (0, 0, 3) else
    if (checkS (L.map tri46)).2 = 0 then (match L.find? (fun e => e.f0 == p) with | some e => (e.f0, e.f1, 0) | none => (0, 0, 14)) else (0, 0, (checkS (L.map tri46)).2)
theorem of_l1 {L M : List RE} {p a b : Int} (hL : L.length ≤ 1000) (l : List RE) : ∀ i : Nat, L.drop i = l →
    Ev (fun k => XO.epicycleref06_Of.l1 k L (L.length : Int) i a b p M) (match l.find? (fun e => e.f0 == p) with | some e => (e.f0, e.f1, 0) | none => (0, 0, 14)) := by
  induction l with
  | nil =>
    intro i hd
    have : L.length ≤ i := by have := congrArg List.length hd; simp at this; omega
    have c : ¬ (i : Int) < (L.length : Int) := by omega
    refine Ev.step (f := fun _ => some (0, 0, 14)) (fun k => ?_) (Ev.now _)
    simp only [XO.epicycleref06_Of.l1]
    rw [if_neg c]
  | cons x l ih =>
    intro i hd
    obtain ⟨hx, hlt, hd'⟩ := rd46_drop hd
    have c : (i : Int) < (L.length : Int) := by omega
    have c0 : 0 ≤ (i : Int) := by omega
    have w : wrap64 ((i : Int) + 1) = ((i + 1 : Nat) : Int) := by rw [w64_id _ (by omega) (by omega)]; omega
    by_cases h : x.f0 = p
    · rw [List.find?_cons, beq_iff_eq.2 h]
      refine Ev.step (f := fun _ => some (x.f0, x.f1, 0)) (fun k => ?_) (Ev.now _)
      simp only [XO.epicycleref06_Of.l1]
      rw [if_pos c, if_pos c0, if_pos c, hx, if_pos h]
    · rw [List.find?_cons, beq_eq_false_iff_ne.2 h]
      refine Ev.step (fun k => ?_) (ih (i + 1) hd')
      simp only [XO.epicycleref06_Of.l1]
      rw [if_pos c, if_pos c0, if_pos c, hx, if_neg h, w]
theorem of_l0 {L M : List RE} {p a b : Int} {r : Int × Int × Int} (hL : L.length ≤ 1000) (E : Ev (fun k => (epicycleref04_Check.f k M).bind fun c => if c.2 = 0 then XO.epicycleref06_Of.l1 k M (M.length : Int) 0 a b p M else some (0, 0, c.2)) r) (l : List RE) : ∀ i : Nat, L.drop i = l →
    Ev (fun k => XO.epicycleref06_Of.l0 k L (L.length : Int) i a b p M) (if (l.any fun e => decide ((e.f2.length : Int) > 20)) = true then (0, 0, 3) else r) := by
  induction l with
  | nil =>
    intro i hd
    have : L.length ≤ i := by have := congrArg List.length hd; simp at this; omega
    have c : ¬ (i : Int) < (L.length : Int) := by omega
    rw [if_neg (by simp)]
    refine Ev.step (fun k => ?_) E
    simp only [XO.epicycleref06_Of.l0]
    rw [if_neg c]
  | cons x l ih =>
    intro i hd
    obtain ⟨hx, hlt, hd'⟩ := rd46_drop hd
    have c : (i : Int) < (L.length : Int) := by omega
    have c0 : 0 ≤ (i : Int) := by omega
    have w : wrap64 ((i : Int) + 1) = ((i + 1 : Nat) : Int) := by rw [w64_id _ (by omega) (by omega)]; omega
    by_cases h : (x.f2.length : Int) > 20
    · rw [List.any_cons, decide_eq_true h, Bool.true_or, if_pos rfl]
      refine Ev.step (f := fun _ => some (0, 0, 3)) (fun k => ?_) (Ev.now _)
      simp only [XO.epicycleref06_Of.l0]
      rw [if_pos c, if_pos c0, if_pos c, hx, if_pos h]
    · rw [List.any_cons, decide_eq_false h, Bool.false_or]
      refine Ev.step (fun k => ?_) (ih (i + 1) hd')
      simp only [XO.epicycleref06_Of.l0]
      rw [if_pos c, if_pos c0, if_pos c, hx, if_neg h, w]
theorem ofNew_ev {L : List RE} (hL : okRow L) {kind K p : Int} (h0 : ¬ kind = 0) (h1 : ¬ kind = 1) : Ev (fun k => epicycleref06_Of.f k kind K p L) (ofNew L p) := by
  have c : ¬ (kind = 1 ∧ 0 ≤ K ∧ K ≤ 5) := fun h => h1 h.1
  refine Ev.congr (f := fun k => if (L.length : Int) > 40 then some (0, 0, 13) else XO.epicycleref06_Of.l0 k L (L.length : Int) 0 kind K p L) (fun k => ?_) ?_
  · unfold epicycleref06_Of.f XO.epicycleref06_Of.f
    rw [if_neg c, if_neg h0, if_neg h1]
  unfold ofNew
  by_cases h : (L.length : Int) > 40
  · rw [if_pos h]; exact evP h (Ev.now _)
  · rw [if_neg h]
    refine evN h (of_l0 (by omega) ?_ L 0 rfl)
    refine Ev.bind (refcheck_ev hL.2) ?_
    by_cases hz : (checkS (L.map tri46)).2 = 0
    · rw [if_pos hz]; exact evP hz (of_l1 (by omega) L 0 rfl)
    · rw [if_neg hz]; exact evN hz (Ev.now _)
theorem new_of {L : List RE} (hL : okRow L) (p : Int) : (∃ e, e ≠ 0 ∧ newS (L.map cE) p = ([], e) ∧ ∃ e', e' ≠ 0 ∧ ofNew L p = (0, 0, e') ∧ ((L.length : Int) ≤ 40 → (∀ x ∈ L, (x.f2.length : Int) ≤ 20) → e' = e)) ∨ ∃ F, newS (L.map cE) p = ([F], 0) ∧ ofNew L p = (F.p, F.g, 0) ∧ GoodFld F ∧ (L.length : Int) ≤ 40 := by
  have hm := map_tri L
  have hok : ∀ e ∈ (L.map cE).map tri, okE e := by rw [hm]; exact hL.2
  have key : newS (L.map cE) p = if (checkS (L.map tri46)).2 = 0 then (match L.find? (fun e => e.f0 == p) with | some e => ([⟨e.f0, e.f1, e.f2.map cF⟩], 0) | none => ([], 14)) else ([], (checkS (L.map tri46)).2) := by
    unfold newS
    rw [hm, List.find?_map]
    have : ((fun e : PE => e.f0 == p) ∘ cE) = fun e : RE => e.f0 == p := rfl
    rw [this]
    cases L.find? (fun e => e.f0 == p) <;> rfl
  by_cases hz : (checkS (L.map tri46)).2 = 0
  · have hz' : (checkS ((L.map cE).map tri)).2 = 0 := by rw [hm]; exact hz
    have hl := (check_facts hz').2
    rw [List.length_map] at hl
    have hs : ∀ e ∈ L, (e.f2.length : Int) ≤ 20 := fun e he => by
      have := (entry_good hok hz' (List.mem_map_of_mem he)).short
      have : (e.f2.map cF).length ≤ 16 := this
      rw [List.length_map] at this
      omega
    have ho : ofNew L p = (match L.find? (fun e => e.f0 == p) with | some e => (e.f0, e.f1, 0) | none => (0, 0, 14)) := by
      unfold ofNew
      rw [if_neg (by omega), if_neg, if_pos hz]
      rw [Bool.not_eq_true, List.any_eq_false]
      intro e he
      have := hs e he
      simp only [decide_eq_true_eq]; omega
    rw [if_pos hz] at key
    cases hf : L.find? (fun e => e.f0 == p) with
    | none =>
      rw [hf] at ho key
      exact .inl ⟨14, by decide, key, 14, by decide, ho, fun _ _ => rfl⟩
    | some e =>
      rw [hf] at ho key
      exact .inr ⟨_, key, ho, entry_good hok hz' (List.mem_map_of_mem (List.mem_of_find?_eq_some hf)), by omega⟩
  · rw [if_neg hz] at key
    refine .inl ⟨_, hz, key, ?_⟩
    unfold ofNew
    split
    · next h => exact ⟨13, by decide, rfl, fun h' => absurd h' (by omega)⟩
    · split
      · next h =>
        refine ⟨3, by decide, rfl, fun _ h' => ?_⟩
        rw [List.any_eq_true] at h
        obtain ⟨x, hx, h⟩ := h
        have := h' x hx
        simp only [decide_eq_true_eq] at h
        omega
      · exact ⟨_, hz, rfl, fun _ _ => rfl⟩
open Classical in
theorem of_small {L : List RE} {K p : Int} : (OddP p → ∀ g, Ev (fun k => epicycleref05_Generator.f k p) g → Ev (fun k => epicycleref06_Of.f k 0 K p L) (p, g, 0)) ∧ (¬ OddP p → Ev (fun k => epicycleref06_Of.f k 0 K p L) (0, 0, 1)) := by
  have O := rOdd_ev p
  have e : ∀ k, epicycleref06_Of.f k 0 K p L = ((epicycleref05_Odd.f k p).bind fun t102 => (if t102 = true then ((epicycleref05_Generator.f k p).bind fun t103 => (some (p, t103, 0))) else (some (0, 0, 1)))) := fun k => by
    unfold epicycleref06_Of.f XO.epicycleref06_Of.f
    rw [if_neg (by omega), if_pos rfl]
  refine ⟨fun h g G => ?_, fun h => ?_⟩
  · rw [decide_eq_true h] at O
    exact Ev.congr e (Ev.bind O (evP rfl (Ev.bind G (Ev.now _))))
  · rw [decide_eq_false h] at O
    exact Ev.congr e (Ev.bind O (evN (by decide) (Ev.now _)))
theorem of_known {L : List RE} {K p : Int} : ((0 ≤ K ∧ K ≤ 5) → Ev (fun k => epicycleref06_Of.f k 1 K p L) (knownT K)) ∧ (¬ (0 ≤ K ∧ K ≤ 5) → Ev (fun k => epicycleref06_Of.f k 1 K p L) (0, 0, 1)) := by
  refine ⟨fun h => Ev.congr (fun k => by unfold epicycleref06_Of.f; rw [if_pos ⟨rfl, h⟩]) (Ev.now _), fun h => ?_⟩
  refine Ev.congr (f := fun k => XO.epicycleref06_Of.j0 k true) (fun k => ?_) (Ev.step (f := fun _ => some (0, 0, 1)) (fun k => ?_) (Ev.now _))
  · unfold epicycleref06_Of.f XO.epicycleref06_Of.f
    rw [if_neg (fun c => h c.2), if_neg (by decide), if_pos rfl]
    by_cases c : K < 0
    · rw [if_pos c]
    · rw [if_neg c, decide_eq_true (by omega)]
  · simp only [XO.epicycleref06_Of.j0]
    rw [if_pos trivial]
end Go.Proofs.YtndkmnjbjlfeaaaGreat.F06
end
section
namespace Go.Proofs.YtndkmnjbjlfeaaaGreat.F06
open Go Go.RowKit Go.Proofs.YtndkmnjbjlfeaaaGreatW.PrintWords Go.Proofs.YtndkmnjbjlfeaaaGreatW.PrintLast Go.Proofs.YtndkmnjbjlfeaaaGreatW.PrintMore Go.Proofs.YtndkmnjbjlfeaaaGreat.Given Go.Proofs.YtndkmnjbjlfeaaaGreat.M Go.Proofs.YtndkmnjbjlfeaaaGreat.Mont Go.Proofs.YtndkmnjbjlfeaaaGreat.XS Go.Proofs.YtndkmnjbjlfeaaaGreat.XT Go.Proofs.YtndkmnjbjlfeaaaGreat.XR Go.Proofs.YtndkmnjbjlfeaaaGreat.Num Go.Proofs.YtndkmnjbjlfeaaaGreat.XK
theorem evS {α : Type} {o : Option α} {r : α} (h : o = some r) : Ev (fun _ => o) r := ⟨0, fun _ _ => h⟩
theorem evB {α β : Type} {o : Option α} {f : Nat → α → Option β} {a : α} {r : β} (h : o = some a) (k : Ev (fun n => f n a) r) : Ev (fun n => o.bind (f n)) r := Ev.bind (evS h) k
variable {F : Fld}
theorem GoodFld.nat (h : GoodFld F) : ∃ P G : Nat, F.p = P ∧ F.g = G ∧ 3 ≤ P ∧ P < 9223372036854775808 ∧ P % 2 = 1 ∧ Prime P ∧ ∀ x, G ^ x % P = 1 ↔ P - 1 ∣ x := by
  have hf := h.fits
  unfold XR.fits at hf
  have ho := h.ord
  refine ⟨F.p.toNat, F.g.toNat, by omega, by omega, by omega, by omega, by omega, ho.prime, ho.2⟩
theorem GoodFld.lo (h : GoodFld F) : 3 ≤ F.p := h.m.2.1
theorem GoodFld.hi (h : GoodFld F) : F.p < 9223372036854775808 := h.m.2.2
theorem GoodFld.uP (h : GoodFld F) : U F.p := ⟨by have := h.lo; omega, by have := h.hi; omega⟩
theorem GoodFld.ne (h : GoodFld F) : F.p ≠ 0 := by have := h.lo; omega
theorem GoodFld.uE (h : GoodFld F) (x : Int) : U (x % F.p) := U_emod x h.uP h.ne
theorem GoodFld.one (h : GoodFld F) : (1 : Int) % F.p = 1 := Int.emod_eq_of_lt (by omega) (by have := h.lo; omega)
theorem ncast_pow_mod (G P n : Nat) : (G : Int) ^ n % (P : Int) = ((G ^ n % P : Nat) : Int) := by
  rw [Int.natCast_emod, Int.natCast_pow]
theorem GoodFld.ordI (h : GoodFld F) (x : Nat) : F.g ^ x % F.p = 1 ↔ (F.p - 1).toNat ∣ x := by
  obtain ⟨P, G, e1, e2, h3, _, _, _, ho⟩ := h.nat
  rw [e1, e2, ncast_pow_mod, show ((P : Int) - 1).toNat = P - 1 by omega, ← ho x]
  omega
theorem GoodFld.euclid (h : GoodFld F) {a b : Int} (e : a * b % F.p = 0) : a % F.p = 0 ∨ b % F.p = 0 := by
  obtain ⟨P, G, e1, _, _, _, _, hp, _⟩ := h.nat
  rw [e1] at e ⊢
  rcases hp.int (Int.dvd_of_emod_eq_zero e) with d | d
  · exact .inl (Int.emod_eq_zero_of_dvd d)
  · exact .inr (Int.emod_eq_zero_of_dvd d)
theorem GoodFld.fermat (h : GoodFld F) {a : Int} (ha : a % F.p ≠ 0) : a ^ (F.p - 1).toNat % F.p = 1 := by
  obtain ⟨P, G, e1, _, h3, _, _, hp, _⟩ := h.nat
  have hlo := h.lo
  rw [← emod_pow]
  obtain ⟨A, hA⟩ : ∃ A : Nat, a % F.p = A := ⟨(a % F.p).toNat, by have := Int.emod_nonneg a h.ne; omega⟩
  have hlt := Int.emod_lt_of_pos a (show 0 < F.p by omega)
  rw [hA] at ha hlt ⊢
  rw [e1] at hlt ⊢
  rw [show ((P : Int) - 1).toNat = P - 1 by omega, ncast_pow_mod, hp.fermat (by rw [Nat.mod_eq_of_lt (by omega)]; omega)]
  rfl
theorem GoodFld.inv (h : GoodFld F) {a : Int} (ha : a % F.p ≠ 0) : invF F.p a = a ^ (F.p - 2).toNat % F.p ∧ invF F.p a * a % F.p = 1 ∧ invF F.p a % F.p ≠ 0 ∧ 0 ≤ invF F.p a ∧ invF F.p a < F.p := by
  have hlo := h.lo
  have e : (F.p - 1).toNat = (F.p - 2).toNat + 1 := by omega
  have hf := h.fermat ha
  rw [e, Int.pow_succ] at hf
  have h0 := Int.emod_nonneg (a ^ (F.p - 2).toNat) h.ne
  have h1 := Int.emod_lt_of_pos (a ^ (F.p - 2).toNat) (show 0 < F.p by omega)
  have h2 : a ^ (F.p - 2).toNat % F.p * a % F.p = 1 := by rw [emod_mul_l]; exact hf
  have e1 := invF_eq (by omega) h0 h1 h2
  rw [e1]
  refine ⟨rfl, h2, fun c => ?_, h0, h1⟩
  rw [Int.emod_emod] at c
  rw [c, Int.zero_mul, Int.zero_emod] at h2
  omega
theorem GoodFld.inv0 (h : GoodFld F) {a : Int} (ha : a % F.p = 0) : invF F.p a = 0 := by
  have hlo := h.lo
  refine invF_none fun ⟨t, _, _, e⟩ => ?_
  rw [Int.mul_emod, ha, Int.mul_zero, Int.zero_emod] at e
  omega
theorem GoodFld.cancel (h : GoodFld F) {a b c : Int} (hc : c % F.p ≠ 0) (e : a * c % F.p = b * c % F.p) : a % F.p = b % F.p := by
  have : (a - b) * c % F.p = 0 := by rw [Int.sub_mul]; exact Int.emod_eq_zero_of_dvd (M.dvd_sub_of_emod e)
  rcases h.euclid this with d | d
  · exact M.emod_of_dvd_sub (Int.dvd_of_emod_eq_zero d)
  · exact absurd d hc
theorem GoodFld.uInv (h : GoodFld F) (a : Int) : U (invF F.p a) := by
  have hlo := h.lo
  have hhi := h.hi
  by_cases ha : a % F.p = 0
  · rw [h.inv0 ha]; unfold U; omega
  · obtain ⟨_, _, _, h0, h1⟩ := h.inv ha
    unfold U; omega
def rootI (F : Fld) (n : Int) : Int := F.g ^ ((F.p - 1) / n).toNat % F.p
theorem rootI_pow (F : Fld) (n : Int) (k : Nat) : rootI F n ^ k % F.p = F.g ^ (((F.p - 1) / n).toNat * k) % F.p := by
  unfold rootI
  rw [emod_pow, ← Int.pow_mul]
theorem div_parts {p n : Int} (hp : 3 ≤ p) (hn : 0 < n) (hd : (p - 1) % n = 0) : (p - 1).toNat = ((p - 1) / n).toNat * n.toNat ∧ 0 < ((p - 1) / n).toNat ∧ 0 < n.toNat := by
  have e := Int.mul_ediv_add_emod (p - 1) n
  rw [hd, Int.add_zero] at e
  have hq : 0 < (p - 1) / n := by
    refine Classical.byContradiction fun c => ?_
    have := Int.mul_nonpos_of_nonneg_of_nonpos (show 0 ≤ n by omega) (show (p - 1) / n ≤ 0 by omega)
    omega
  refine ⟨?_, by omega, by omega⟩
  have e' : ((p - 1).toNat : Int) = ((((p - 1) / n).toNat * n.toNat : Nat) : Int) := by
    rw [Int.natCast_mul, Int.toNat_of_nonneg (by omega), Int.toNat_of_nonneg (by omega), Int.toNat_of_nonneg (by omega), Int.mul_comm]
    exact e.symm
  omega
theorem GoodFld.root_ord (h : GoodFld F) {n : Int} (hn : 0 < n) (hd : (F.p - 1) % n = 0) (k : Nat) : rootI F n ^ k % F.p = 1 ↔ n.toNat ∣ k := by
  obtain ⟨e, h1, h2⟩ := div_parts h.lo hn hd
  rw [rootI_pow, h.ordI, e]
  exact Nat.mul_dvd_mul_iff_left h1
theorem GoodFld.uRoot (h : GoodFld F) (n : Int) : U (rootI F n) := h.uE _
theorem GoodFld.root_ne (h : GoodFld F) {n : Int} (hn : 0 < n) (hd : (F.p - 1) % n = 0) : rootI F n % F.p ≠ 0 := by
  intro c
  obtain ⟨_, _, h2⟩ := div_parts h.lo hn hd
  have := (h.root_ord hn hd n.toNat).2 (Nat.dvd_refl _)
  rw [← emod_pow, c, Int.zero_pow (by omega), Int.zero_emod] at this
  omega
theorem Root_at (F : Fld) {n : Int} (hb : n < 9223372036854775808) (hn : 0 < n) (hd : (F.p - 1) % n = 0) : field_Field_Root.f [F] n = some (rootI F n, 0) := by
  unfold field_Field_Root.f
  rw [if_pos hb]
  show some (if _ then _ else _) = _
  rw [if_pos ⟨hn, hd⟩]
  rfl
theorem Root_not (F : Fld) {n : Int} (hb : n < 9223372036854775808) (hn : ¬ (0 < n ∧ (F.p - 1) % n = 0)) : field_Field_Root.f [F] n = some (0, 4) := by
  unfold field_Field_Root.f
  rw [if_pos hb]
  show some (if _ then _ else _) = _
  rw [if_neg hn]
theorem Divides_at (F : Fld) {n : Int} (hb : n < 9223372036854775808) : field_Field_Divides.f [F] n = some (decide (0 < n ∧ (F.p - 1) % n = 0)) := by
  unfold field_Field_Divides.f
  rw [if_pos (by omega)]
  show some (decide _ && decide _) = _
  rw [← Bool.decide_and]
def geo (x : Int) : Nat → Int
  | 0 => 0
  | n + 1 => geo x n + x ^ n
theorem geo_mul (x : Int) : ∀ n : Nat, (x - 1) * geo x n = x ^ n - 1
  | 0 => by simp [geo]
  | n + 1 => by
    show (x - 1) * (geo x n + x ^ n) = _
    rw [Int.mul_add, geo_mul x n, Int.sub_mul, Int.one_mul, Int.pow_succ, Int.mul_comm (x ^ n) x]
    omega
theorem geo_one {p x : Int} (hx : x % p = 1 % p) : ∀ n : Nat, geo x n % p = (n : Int) % p
  | 0 => rfl
  | n + 1 => by
    show (geo x n + x ^ n) % p = _
    rw [Int.add_emod, geo_one hx n, ← emod_pow, hx, emod_pow, Int.one_pow, ← Int.add_emod]
    rfl
theorem GoodFld.geo_zero (h : GoodFld F) {x : Int} {n : Nat} (h1 : x ^ n % F.p = 1) (hx : x % F.p ≠ 1) : geo x n % F.p = 0 := by
  have e : (x - 1) * geo x n % F.p = 0 := by
    rw [geo_mul]
    exact Int.emod_eq_zero_of_dvd (M.dvd_sub_of_emod (by rw [h1, h.one]))
  rcases h.euclid e with d | d
  · have := M.emod_of_dvd_sub (Int.dvd_of_emod_eq_zero d)
    rw [h.one] at this
    exact absurd this hx
  · exact d
end Go.Proofs.YtndkmnjbjlfeaaaGreat.F06
end
section
namespace Go.Proofs.YtndkmnjbjlfeaaaGreat.XW
open Go.RowKit Go.Proofs.YtndkmnjbjlfeaaaGreat.Given Go.Proofs.YtndkmnjbjlfeaaaGreat.Row05 Go.Proofs.YtndkmnjbjlfeaaaGreat.XS Go.Proofs.YtndkmnjbjlfeaaaGreat.XT Go.Proofs.YtndkmnjbjlfeaaaGreat.XR Go.Proofs.YtndkmnjbjlfeaaaGreat.F06 Go.Proofs.YtndkmnjbjlfeaaaGreat.XK Go.Proofs.YtndkmnjbjlfeaaaGreatW.PrintWords Go.Proofs.YtndkmnjbjlfeaaaGreatW.PrintLast Go.Proofs.YtndkmnjbjlfeaaaGreatW.PrintMore
attribute [local go_sem] max2_int min2_int max_two min_two max_three min_three max_four min_four   -- for this text's walks alone
set_option linter.unusedVariables false
set_option linter.unusedSimpArgs false
noncomputable def twiddle_Root.j0 : Nat → List (Fld) → Int → Int → Bool → Option (Int × Int)
 | 0, _, _, _, _ => none
 | k + 1, x0, x8, x9, x29 => if x29 = true then ((field_Field_Inv.f x0 x8).bind fun t103 => (some (t103, x9))) else (some (x8, x9))
noncomputable def twiddle_Root.f (k : Nat) (l0 : List (Fld)) (a1 : Int) (a2 : Bool) : Option (Int × Int) := if (l0.length : Int) = 0 then (some (0, 2)) else (if a1 < 1 then (some (0, 1)) else (if a1 > 4096 then (some (0, 13)) else ((field_Field_Root.f l0 a1).bind fun bt101 => (if bt101.2 = 0 then (twiddle_Root.j0 k l0 bt101.1 bt101.2 a2) else (twiddle_Root.j0 k l0 bt101.1 bt101.2 false)))))
set_option maxHeartbeats 8000000 in
set_option maxRecDepth 100000 in
theorem twiddle_Root.calls (k : Nat) (A0 : Option Addr) (c0 : Nat) (l0 : List (Fld)) (a1 : Int) (a2 : Bool) (r1 : Int) (r2 : Int) (w : World) (hr0 : Kd.C kFld w A0 l0.length l0) (hc0 : l0.length ≤ c0) (h : twiddle_Root.f k l0 a1 a2 = some (r1, r2)) :
  Calls Tryz.prog 132 #[toPtr (.slice A0 l0.length c0), .int .i64 a1, .bool a2] w fun e w' => e = .returned (.tuple #[.int .u64 r1, .int .i64 r2]) ∧ Drawn0 w w' := by
 have HR0 := Aside0.mk hr0
 have HC0 := Aside0.mk hc0
 clear hr0 hc0
 have H := h; unfold twiddle_Root.f at H
 clear h
 by_cases c4 : (l0.length : Int) = 0
 ·rw [if_pos c4] at H
  have c4b0 := beq_iff_eq.mpr c4
  have c4b1 := bne_eq_false_iff_eq.mpr c4
  have hT_HR0 := pf_none A0 c0 (show l0.length = 0 by omega)
  (try rw [hT_HR0])
  clear c4
  simp only [Option.some.injEq, Prod.mk.injEq] at H
  obtain ⟨rfl, rfl⟩ := H
  go_enter Tryz.func132, Tryz.ntmps132
  go_wp2
  go_ret2
  exact ⟨by first | rfl | (simp; done) | (simp [*]; done), by repeat (first | exact Drawn0.refl _ | apply Drawn0.step)⟩
 ·rw [if_neg c4] at H
  have c4b0 := beq_eq_false_iff_ne.mpr c4
  have c4b1 := bne_iff_ne.mpr c4
  have c4b2 : ¬ (l0 = []) := fun h_ => c4 (by rw [h_]; rfl)
  obtain ⟨aT_HR0, hT_HR0⟩ := pf_some A0 c0 (show ¬ (l0.length = 0) by omega)
  (try rw [hT_HR0])
  by_cases c5 : a1 < 1
  ·rw [if_pos c5] at H
   have c5b0 := decide_eq_true c5
   clear c5
   simp only [Option.some.injEq, Prod.mk.injEq] at H
   obtain ⟨rfl, rfl⟩ := H
   go_enter Tryz.func132, Tryz.ntmps132
   go_wp2
   go_ret2
   exact ⟨by first | rfl | (simp; done) | (simp [*]; done), by repeat (first | exact Drawn0.refl _ | apply Drawn0.step)⟩
  ·rw [if_neg c5] at H
   have c5b0 := decide_eq_false c5
   clear c5
   by_cases c6 : a1 > 4096
   ·rw [if_pos c6] at H
    have c6b0 := decide_eq_true c6
    clear c6
    simp only [Option.some.injEq, Prod.mk.injEq] at H
    obtain ⟨rfl, rfl⟩ := H
    go_enter Tryz.func132, Tryz.ntmps132
    go_wp2
    go_ret2
    exact ⟨by first | rfl | (simp; done) | (simp [*]; done), by repeat (first | exact Drawn0.refl _ | apply Drawn0.step)⟩
   ·rw [if_neg c6] at H
    have c6b0 := decide_eq_false c6
    clear c6
    replace H := Option.bind_eq_some_iff.mp H
    obtain ⟨⟨t101, t102⟩, A70, H⟩ := H
    (try dsimp only at H)
    have A7 := Aside0.mk A70
    clear A70
    have HC8 := Aside0.mk H
    clear H
    go_enter Tryz.func132, Tryz.ntmps132
    go_upto_region 8 with (first | ((with_reducible refine gate_callee (f := 29) rfl ?_); refine goesL_ (some 22) rfl rfl Tryz.func29 (by kernel_rfl) rfl #[toPtr (.slice A0 l0.length c0), .int .i64 a1] rfl (by (try simp only [List.map_toArray, List.map_cons, List.map_nil]); first | done | (rw [hT_HR0] <;> rfl) | rfl | (simp only [List.length_drop, List.length_take]; rfl)) ?_; (try rw [← hT_HR0]); (with_reducible refine (field_Field_Root.calls _ _ l0 a1 t101 t102 _ ?side1 ?side2 A7.out).mono ?_); (case side1 => repeat (first | exact HR0.out | (with_reducible refine Kd.C_alloc ?_ _) | (with_reducible refine Kd.C_drewN ?_ _) | (with_reducible refine Kd.C_drew ?_))); (case side2 => exact HC0.out); rintro e w' ⟨rfl, ⟨nd, rfl⟩⟩; refine ⟨_, rfl, ?_⟩))
    (try simp only [Act.put, List.setIfInBounds_toArray, List.set_cons_zero, List.set_cons_succ])
    go_cut [29] (fun v29 wc => ∃ (kq : Nat) (x29_7 : Bool), v29 = .bool x29_7 ∧ Aside0 (twiddle_Root.j0 kq l0 t101 t102 x29_7 = some (r1, r2)) ∧ Aside0 (kq ≤ k) ∧ Drawn0 w wc)
    case first =>
     have H := HC8.out
     clear HC8
     by_cases c9 : t102 = 0
     ·rw [if_pos c9] at H
      have c9b0 := beq_iff_eq.mpr c9
      have c9b1 := bne_eq_false_iff_eq.mpr c9
      clear c9
      (first | rw [c9b0] | (simp only [i64_w, i32_w]; rw [c9b0]) | skip)
      have H' := Aside0.mk H
      clear H
      go_wp2
      go_meet
      case rel => exact ⟨_, (a2), (by first | rfl | (simp; done) | (simp [*]; done)), H', ⟨by first | omega | exact Nat.le_refl _⟩, by repeat (first | exact Drawn0.refl _ | apply Drawn0.step)⟩
     ·rw [if_neg c9] at H
      have c9b0 := beq_eq_false_iff_ne.mpr c9
      have c9b1 := bne_iff_ne.mpr c9
      (first | rw [c9b0] | (simp only [i64_w, i32_w]; rw [c9b0]) | skip)
      have H' := Aside0.mk H
      clear H
      go_wp2
      go_meet
      case rel => exact ⟨_, (false), (by first | rfl | (simp; done) | (simp [*]; done)), H', ⟨by first | omega | exact Nat.le_refl _⟩, by repeat (first | exact Drawn0.refl _ | apply Drawn0.step)⟩
    case rest =>
     clear HC8
     try clear c1
     try clear c2
     try clear p2
     try clear c4
     try clear c4b0
     try clear c4b1
     try clear c4b2
     try clear c5
     try clear c5b0
     try clear c6
     try clear c6b0
     try clear c9
     try clear c9b0
     try clear c9b1
     obtain ⟨kq, x29_7, rfl, HA, HJ7, ⟨mc7, rfl⟩⟩ := hcut
     cases kq with
     | zero => exact absurd HA.out (by simp [twiddle_Root.j0])
     | succ kj7 =>
      have H := HA.out
      clear HA
      simp only [twiddle_Root.j0] at H
      by_cases c10 : x29_7 = true
      ·subst c10
       have H1 := H; rw [if_pos rfl] at H1
       clear H
       have H := H1
       clear H1
       replace H := Option.bind_eq_some_iff.mp H
       obtain ⟨t103, A110, H⟩ := H
       (try dsimp only at H)
       have A11 := Aside0.mk A110
       clear A110
       simp only [Option.some.injEq, Prod.mk.injEq] at H
       obtain ⟨rfl, rfl⟩ := H
       go_wp2_with (first | ((with_reducible refine gate_callee (f := 61) rfl ?_); refine goesL_ (some 32) rfl rfl Tryz.func61 (by kernel_rfl) rfl #[toPtr (.slice A0 l0.length c0), .int .u64 t101] rfl (by (try simp only [List.map_toArray, List.map_cons, List.map_nil]); first | done | (rw [hT_HR0] <;> rfl) | rfl | (simp only [List.length_drop, List.length_take]; rfl)) ?_; (try rw [← hT_HR0]); (with_reducible refine (field_Field_Inv.calls _ _ l0 t101 t103 _ ?side1 ?side2 A11.out).mono ?_); (case side1 => repeat (first | exact HR0.out | (with_reducible refine Kd.C_alloc ?_ _) | (with_reducible refine Kd.C_drewN ?_ _) | (with_reducible refine Kd.C_drew ?_))); (case side2 => exact HC0.out); rintro e w' ⟨rfl, ⟨nd, rfl⟩⟩; refine ⟨_, rfl, ?_⟩))
       go_ret2
       exact ⟨by first | rfl | (simp; done) | (simp [*]; done), by repeat (first | exact Drawn0.refl _ | apply Drawn0.step)⟩
      ·replace c10 := Bool.eq_false_iff.mpr c10
       subst c10
       have H1 := H; rw [if_neg (show ¬ (false = true) by decide)] at H1
       clear H
       have H := H1
       clear H1
       simp only [Option.some.injEq, Prod.mk.injEq] at H
       obtain ⟨rfl, rfl⟩ := H
       go_wp2
       go_ret2
       exact ⟨by first | rfl | (simp; done) | (simp [*]; done), by repeat (first | exact Drawn0.refl _ | apply Drawn0.step)⟩
noncomputable def twiddle_Table.l0 : Nat → List (Fld) → Int → List Int → Int → Int → Int → Option (List Int × Int)
 | 0, _, _, _, _, _, _ => none
 | k + 1, x0, x10, x11, x12, x30, x31 => if x31 < x30 then (if 0 ≤ x31 then (if x31 < (x11.length : Int) then ((field_Field_Times.f x0 x10 x12).bind fun t111 => (twiddle_Table.l0 k x0 x10 (x11.set (x31 : Int).toNat x12) t111 x30 (wrap64 (x31 + 1)))) else (none)) else (none)) else (some (x11, 0))
noncomputable def twiddle_Table.f (k : Nat) (l0 : List (Fld)) (a1 : Int) (a2 : Bool) : Option (List Int × Int) := (twiddle_Root.f k l0 a1 a2).bind fun bt104 => (if bt104.2 = 0 then ((field_Field_Lift.f l0 bt104.1).bind fun t106 => (if 0 ≤ a1 then (if (a1 : Int).toNat ≤ 35184372088832 then ((some (List.replicate (a1 : Int).toNat 0 : List Int)).bind fun y107 => (twiddle_Table.l0 k l0 t106 y107 1 (y107.length : Int) 0)) else (none)) else (none))) else (some (([] : List Int), bt104.2)))
set_option maxHeartbeats 8000000 in
set_option maxRecDepth 100000 in
theorem twiddle_Table.calls (k : Nat) (A0 : Option Addr) (c0 : Nat) (l0 : List (Fld)) (a1 : Int) (a2 : Bool) (r1 : List Int) (r2 : Int) (w : World) (hr0 : Kd.C kFld w A0 l0.length l0) (hc0 : l0.length ≤ c0) (h : twiddle_Table.f k l0 a1 a2 = some (r1, r2)) :
  Calls Tryz.prog 103 #[toPtr (.slice A0 l0.length c0), .int .i64 a1, .bool a2] w fun e w' => ∃ v0_ : Value, e = .returned (.tuple #[v0_, .int .i64 r2]) ∧ Kd.R (Kd.int .u64) 22 w' w.heap.size (fun _ => True) v0_ r1 ∧ Below w.heap.size w w' := by
 have HR0 := Aside0.mk hr0
 have HC0 := Aside0.mk hc0
 clear hr0 hc0
 have HB := Aside0.mk (Below.refl w.heap.size w)
 have H := h; unfold twiddle_Table.f at H
 clear h
 replace H := Option.bind_eq_some_iff.mp H
 obtain ⟨⟨t104, t105⟩, A40, H⟩ := H
 (try dsimp only at H)
 have A4 := Aside0.mk A40
 clear A40
 by_cases c5 : t105 = 0
 ·rw [if_pos c5] at H
  have c5b0 := beq_iff_eq.mpr c5
  have c5b1 := bne_eq_false_iff_eq.mpr c5
  clear c5
  replace H := Option.bind_eq_some_iff.mp H
  obtain ⟨t106, A60, H⟩ := H
  (try dsimp only at H)
  have A6 := Aside0.mk A60
  clear A60
  by_cases c7 : 0 ≤ a1
  ·rw [if_pos c7] at H
   have c7b0 := eq_true c7
   have c7b1 := decide_eq_true c7
   clear c7
   by_cases c8 : (a1 : Int).toNat ≤ 35184372088832
   ·rw [if_pos c8] at H
    have c8b0 := eq_true c8
    have c8b1 := decide_eq_true c8
    clear c8
    obtain ⟨y107, hy107⟩ : ∃ y_ : List Int, y_ = (List.replicate (a1 : Int).toNat 0) := ⟨_, rfl⟩
    replace H : (twiddle_Table.l0 k l0 t106 y107 1 (y107.length : Int) 0) = some (r1, r2) := by first | (rw [hy107]; with_reducible exact H) | (have H2_ := (Option.bind_some _ _).symm.trans H; rw [hy107]; with_reducible exact H2_) | (have H2_ := (Option.bind_some _ _).symm.trans H; with_reducible exact H2_) | with_reducible exact H | (rw [hy107]; exact H) | exact H
    have Ny107 := Aside0.mk hy107
    clear hy107
    have H' := Aside0.mk H
    clear H
    go_enter Tryz.func103, Tryz.ntmps103
    go_wp2_with (first | ((with_reducible refine gate_callee (f := 132) rfl ?_); refine goesL_ (some 18) rfl rfl Tryz.func132 (by kernel_rfl) rfl #[toPtr (.slice A0 l0.length c0), .int .i64 a1, .bool a2] rfl (by (try simp only [List.map_toArray, List.map_cons, List.map_nil]); first | done | (rw [hT_HR0] <;> rfl) | rfl | (simp only [List.length_drop, List.length_take]; rfl)) ?_; (try rw [← hT_HR0]); (with_reducible refine (twiddle_Root.calls k _ _ l0 a1 a2 t104 t105 _ ?side1 ?side2 A4.out).mono ?_); (case side1 => repeat (first | exact HR0.out | (with_reducible refine Kd.C_alloc ?_ _) | (with_reducible refine Kd.C_drewN ?_ _) | (with_reducible refine Kd.C_drew ?_))); (case side2 => exact HC0.out); rintro e w' ⟨rfl, ⟨nd, rfl⟩⟩; refine ⟨_, rfl, ?_⟩) | ((with_reducible refine gate_callee (f := 60) rfl ?_); refine goesL_ (some 26) rfl rfl Tryz.func60 (by kernel_rfl) rfl #[toPtr (.slice A0 l0.length c0), .int .u64 t104] rfl (by (try simp only [List.map_toArray, List.map_cons, List.map_nil]); first | done | (rw [hT_HR0] <;> rfl) | rfl | (simp only [List.length_drop, List.length_take]; rfl)) ?_; (try rw [← hT_HR0]); (with_reducible refine (field_Field_Lift.calls _ _ l0 t104 t106 _ ?side1 ?side2 A6.out).mono ?_); (case side1 => repeat (first | exact HR0.out | (with_reducible refine Kd.C_alloc ?_ _) | (with_reducible refine Kd.C_drewN ?_ _) | (with_reducible refine Kd.C_drew ?_))); (case side2 => exact HC0.out); rintro e w' ⟨rfl, ⟨nd, rfl⟩⟩; refine ⟨_, rfl, ?_⟩) | ((with_reducible refine gate_dst (N := 28) rfl ?_); refine Kd.R_make (Kd.int .u64) _ 22 rfl (N := 28) rfl 26 _ _ rfl a1 rfl rfl Tryz.underlying26 (.int .u64 0) 8 info22 rfl (by decide) (by omega) 0 (ok := fun _ => True) (okp := fun _ => True) rfl (fun _ hk => hk) trivial (of_decide_eq_true (by assumption)) (Nat.le_trans (Nat.mul_le_mul_right _ (of_decide_eq_true (by assumption) : a1.toNat ≤ 35184372088832)) (by omega)) (Below.refl _ _) (Nat.le_refl _) ?_; intro v108 w9 ho10 hb hg_ hnew_; clear hg_ hnew_; (first | rw [← Ny107.out] at ho10 | (simp only [Int.reduceToNat] at ho10; rw [← Ny107.out] at ho10)); have n0_ := Aside0.mk (Kd.R_lower ho10 (below_size bel_)); have n1_ := Aside0.mk (below_step bel_ hb); clear HB; have HO109 := n0_; have HB := n1_; clear n0_ n1_; clear hb ho10; obtain ⟨Ao11, co11, eo11⟩ := Kd.R_slice HO109.out; subst eo11))
    go_loopg [12, 31] k (fun kq v12 v31 w' => ∃ (x11_1 : List Int) (x12_1 : Int) (x31_1 : Int), v12 = .int .u64 x12_1 ∧ v31 = .int .i64 x31_1 ∧ Aside0 (twiddle_Table.l0 kq l0 t106 x11_1 x12_1 (y107.length : Int) x31_1 = some (r1, r2)) ∧ Aside0 (kq ≤ k) ∧ Aside0 (Kd.R (Kd.int .u64) 22 w' w.heap.size (fun _ => True) (.slice Ao11 y107.length co11) x11_1) ∧ Aside0 (Below w.heap.size w w'))
    case atStart => exact ⟨(y107), (1), (0), (by first | rfl | (simp; done) | (simp [*]; done)), (by first | rfl | (simp; done) | (simp [*]; done)), H', ⟨Nat.le_refl _⟩, ⟨by (with_reducible repeat (first | apply Kd.R_alloc | apply Kd.R_drewN | apply Kd.R_drew)); exact HO109.out⟩, ⟨bel_⟩⟩
    case round =>
     clear H'
     try clear c1
     try clear p2
     try clear c5
     try clear c5b0
     try clear c5b1
     try clear c6
     try clear c7
     try clear c7b0
     try clear c7b1
     try clear c8
     try clear c8b0
     try clear c8b1
     try clear c10
     obtain ⟨x11_1, x12_1, x31_1, rfl, rfl, HA, HK1, HO_11, HB⟩ := hrel
     have hl11_1 := (Kd.R_reads' HO_11.out).1
     rw [hl11_1] at HO_11
     (try simp only [hl11_1])
     cases gk with
     | zero => exact absurd HA.out (by simp [twiddle_Table.l0])
     | succ k1 =>
      have H := HA.out
      clear HA
      simp only [twiddle_Table.l0] at H
      by_cases c12 : x31_1 < (y107.length : Int)
      ·rw [if_pos c12] at H
       have c12b0 := decide_eq_true c12
       (try (have c12b0hl11_1 := c12b0; simp only [hl11_1] at c12b0hl11_1))
       clear c12
       by_cases c13 : 0 ≤ x31_1
       ·rw [if_pos c13] at H
        have c13b0 := decide_eq_true c13
        clear c13
        by_cases c14 : x31_1 < (x11_1.length : Int)
        ·rw [if_pos c14] at H
         have c14b0 := decide_eq_true c14
         (try (have c14b0hl11_1 := c14b0; simp only [hl11_1] at c14b0hl11_1))
         clear c14
         obtain ⟨y110, hy110⟩ : ∃ y_ : List Int, y_ = (x11_1.set (x31_1 : Int).toNat x12_1) := ⟨_, rfl⟩
         replace H : ((field_Field_Times.f l0 t106 x12_1).bind fun t111 => (twiddle_Table.l0 k1 l0 t106 y110 t111 (y107.length : Int) (wrap64 (x31_1 + 1)))) = some (r1, r2) := by first | (rw [hy110]; with_reducible exact H) | (have H2_ := (Option.bind_some _ _).symm.trans H; rw [hy110]; with_reducible exact H2_) | (have H2_ := (Option.bind_some _ _).symm.trans H; with_reducible exact H2_) | with_reducible exact H | (rw [hy110]; exact H) | exact H
         have Ny110 := Aside0.mk hy110
         clear hy110
         replace H := Option.bind_eq_some_iff.mp H
         obtain ⟨t111, A160, H⟩ := H
         (try dsimp only at H)
         have A16 := Aside0.mk A160
         clear A160
         have H' := Aside0.mk H
         clear H
         have p15 : 0 ≤ (x31_1 : Int) := of_decide_eq_true (by assumption)
         have q15 : (x31_1 : Int) < ((x11_1.length : Int) : Int) := of_decide_eq_true (by assumption)
         obtain ⟨go15, co15, eo15, gb15, gl15, cl15, HG15⟩ := Kd.R_form HO_11.out (by omega)
         (first | cases eo15 | (injection eo15 with ea_ en_ ec_; (first | subst ea_ | (injection ea_ with ea_; subst ea_)); subst ec_; clear en_))
         have GB15 := Aside0.mk gb15
         have GG15 := Aside0.mk HG15
         clear gb15 gl15 HG15
         obtain ⟨hx15_0, hf15_0⟩ := Kd.R_celln 0 HO_11.out (x31_1 : Int) p15 q15
         replace p15 := eq_true p15
         replace q15 := eq_true q15
         have HP17 := Kd.R_putg HO_11.out (x31_1 : Int) x12_1
         go_wp2_with (first | ((with_reducible refine gate_store (t := 22) (p := 37) rfl ?_); refine store_event (t := 22) (p := 37) (v := ?vo_w18) (w1 := (wr.setCell ⟨go15, (x31_1 : Int).toNat, none⟩ (.int .u64 x12_1))) ?hg ?ho ?hn ?hr ?_; (case ho => rfl); (case hg => rfl); (case hn => rfl); (case hr => first | (go_simp; done) | (go_simp; rfl)); intro w18 hw; have hg : wr.grownBy w18 (some go15) := (by rw [hw]; exact HP17.2); have hp_ : Kd.R (Kd.int .u64) 22 w18 w.heap.size (fun _ => True) (.slice (some ⟨go15, 0, none⟩) x11_1.length co11) y110 := (by rw [hw, Ny110.out]; exact HP17.1); clear HP17; have n0_ := Aside0.mk (hp_); have n1_ := Aside0.mk ((by rw [hw]; exact below_set (HB.out) GB15.out : Below w.heap.size w w18)); clear HO_11; clear HB; have HO_11 := n0_; have HB := n1_; clear n0_ n1_; clear hg hw hp_) | ((with_reducible refine gate_callee (f := 62) rfl ?_); refine goesL_ (some 41) rfl rfl Tryz.func62 (by kernel_rfl) rfl #[toPtr (.slice A0 l0.length c0), .int .u64 t106, .int .u64 x12_1] rfl (by (try simp only [List.map_toArray, List.map_cons, List.map_nil]); first | done | (rw [hT_HR0] <;> rfl) | rfl | (simp only [List.length_drop, List.length_take]; rfl)) ?_; (try rw [← hT_HR0]); (with_reducible refine (field_Field_Times.calls _ _ l0 t106 x12_1 t111 _ ?side1 ?side2 A16.out).mono ?_); (case side1 => repeat (first | exact (Kd.C_below HR0.out HB.out) | (with_reducible refine Kd.C_alloc ?_ _) | (with_reducible refine Kd.C_drewN ?_ _) | (with_reducible refine Kd.C_drew ?_))); (case side2 => exact HC0.out); rintro e w' ⟨rfl, ⟨nd, rfl⟩⟩; refine ⟨_, rfl, ?_⟩))
         (try simp only [← hl11_1])
         go_roundg k1
         case measure => have := HK1.out; omega
         case rel => exact ⟨(y110), (t111), (wrap64 (x31_1 + 1)), (by first | rfl | (simp; done) | (simp [*]; done)), (by first | rfl | (simp; done) | (simp [*]; done)), H', ⟨by have := HK1.out; omega⟩, ⟨by (try simp only [hl11_1]); (with_reducible repeat (first | apply Kd.R_alloc | apply Kd.R_drewN | apply Kd.R_drew)); exact HO_11.out⟩, ⟨bel_⟩⟩
        ·rw [if_neg c14] at H
         exact absurd H (by simp)
       ·rw [if_neg c13] at H
        exact absurd H (by simp)
      ·rw [if_neg c12] at H
       have c12b0 := decide_eq_false c12
       (try (have c12b0hl11_1 := c12b0; simp only [hl11_1] at c12b0hl11_1))
       clear c12
       simp only [Option.some.injEq, Prod.mk.injEq] at H
       obtain ⟨rfl, rfl⟩ := H
       go_wp2
       go_ret2
       exact ⟨_, by first | rfl | (simp [errW_none, errW_some] <;> rfl) | (simp [*, errW_none, errW_some] <;> rfl), by (with_reducible repeat (first | apply Kd.R_alloc | apply Kd.R_drewN | apply Kd.R_drew)); exact HO_11.out, bel_⟩
   ·rw [if_neg c8] at H
    exact absurd H (by simp)
  ·rw [if_neg c7] at H
   exact absurd H (by simp)
 ·rw [if_neg c5] at H
  have c5b0 := beq_eq_false_iff_ne.mpr c5
  have c5b1 := bne_iff_ne.mpr c5
  simp only [Option.some.injEq, Prod.mk.injEq] at H
  obtain ⟨rfl, rfl⟩ := H
  go_enter Tryz.func103, Tryz.ntmps103
  go_wp2_with (first | ((with_reducible refine gate_callee (f := 132) rfl ?_); refine goesL_ (some 18) rfl rfl Tryz.func132 (by kernel_rfl) rfl #[toPtr (.slice A0 l0.length c0), .int .i64 a1, .bool a2] rfl (by (try simp only [List.map_toArray, List.map_cons, List.map_nil]); first | done | (rw [hT_HR0] <;> rfl) | rfl | (simp only [List.length_drop, List.length_take]; rfl)) ?_; (try rw [← hT_HR0]); (with_reducible refine (twiddle_Root.calls k _ _ l0 a1 a2 t104 t105 _ ?side1 ?side2 A4.out).mono ?_); (case side1 => repeat (first | exact HR0.out | (with_reducible refine Kd.C_alloc ?_ _) | (with_reducible refine Kd.C_drewN ?_ _) | (with_reducible refine Kd.C_drew ?_))); (case side2 => exact HC0.out); rintro e w' ⟨rfl, ⟨nd, rfl⟩⟩; refine ⟨_, rfl, ?_⟩))
  go_ret2
  exact ⟨_, by first | rfl | (simp [errW_none, errW_some] <;> rfl) | (simp [*, errW_none, errW_some] <;> rfl), by first | exact Kd.R_nil _ _ _ _ _ | exact Kd.N_nil _ _ _ _ _ | exact Kd.V_nil _ _ _ _ _ | exact Kd.Q_nil _ _ _ _ _ | exact Kd.S_nil _ _ _ _ _, bel_⟩
end Go.Proofs.YtndkmnjbjlfeaaaGreat.XW
end
section
namespace Go.Proofs.YtndkmnjbjlfeaaaGreat.T10
open Go Go.RowKit Go.Proofs.YtndkmnjbjlfeaaaGreatW.PrintWords Go.Proofs.YtndkmnjbjlfeaaaGreatW.PrintLast Go.Proofs.YtndkmnjbjlfeaaaGreatW.PrintMore Go.Proofs.YtndkmnjbjlfeaaaGreat.Given Go.Proofs.YtndkmnjbjlfeaaaGreat.M Go.Proofs.YtndkmnjbjlfeaaaGreat.Mont Go.Proofs.YtndkmnjbjlfeaaaGreat.XS Go.Proofs.YtndkmnjbjlfeaaaGreat.XT Go.Proofs.YtndkmnjbjlfeaaaGreat.XR Go.Proofs.YtndkmnjbjlfeaaaGreat.Num Go.Proofs.YtndkmnjbjlfeaaaGreat.XK Go.Proofs.YtndkmnjbjlfeaaaGreat.F06 Go.Proofs.YtndkmnjbjlfeaaaGreat.XW
set_option linter.unusedVariables false
def I64 (x : Int) : Prop := -9223372036854775808 ≤ x ∧ x < 9223372036854775808
def powL (p w : Int) (n : Nat) : List Int := (List.range n).map fun i => w ^ i % p
theorem powL_len (p w : Int) (n : Nat) : (powL p w n).length = n := by unfold powL; rw [List.length_map, List.length_range]
theorem powL_at {p w : Int} {n i : Nat} (h : i < n) : (powL p w n)[i]? = some (w ^ i % p) := by
  unfold powL
  rw [List.getElem?_map, List.getElem?_range h]
  rfl
theorem rd_nat (l : List Int) (i : Nat) : rd l (i : Int) = l.getD i 0 := by unfold rd; rw [Int.toNat_natCast]
theorem rd_powL {p w : Int} {n i : Nat} (h : i < n) : rd (powL p w n) (i : Int) = w ^ i % p := by
  rw [rd_nat, List.getD_eq_getElem?_getD, powL_at h]
  rfl
theorem rd_mem {l : List Int} {i : Nat} (h : i < l.length) : rd l (i : Int) ∈ l := by
  rw [rd_nat, List.getD_eq_getElem?_getD, List.getElem?_eq_getElem h]
  exact List.getElem_mem h
theorem wrap_succ {i : Nat} (h : i ≤ 1000000000) : wrap64 ((i : Int) + 1) = ((i + 1 : Nat) : Int) := by rw [w64_id _ (by omega) (by omega)]; omega
noncomputable def trootI (F : Fld) (n : Int) (inv : Bool) : Int := if inv = true then invF F.p (rootI F n) else rootI F n
theorem rootI_range {F : Fld} (hg : GoodFld F) (n : Int) : 0 ≤ rootI F n ∧ rootI F n < F.p := ⟨Int.emod_nonneg _ hg.ne, Int.emod_lt_of_pos _ (by have := hg.lo; omega)⟩
theorem trootI_range {F : Fld} (hg : GoodFld F) (n : Int) (inv : Bool) : 0 ≤ trootI F n inv ∧ trootI F n inv < F.p := by
  have hlo := hg.lo
  unfold trootI
  split
  · by_cases h : rootI F n % F.p = 0
    · rw [hg.inv0 h]; omega
    · obtain ⟨_, _, _, h0, h1⟩ := hg.inv h
      exact ⟨h0, h1⟩
  · exact rootI_range hg n
theorem troot_U {F : Fld} (hg : GoodFld F) (n : Int) (inv : Bool) : U (trootI F n inv) := by
  have := trootI_range hg n inv
  have := hg.hi
  unfold U; omega
theorem pow_inv_one {F : Fld} (hg : GoodFld F) {u w : Int} (h : u * w % F.p = 1) (k : Nat) : u ^ k * w ^ k % F.p = 1 := by
  rw [← Int.mul_pow, ← emod_pow, h, Int.one_pow]
  exact hg.one
theorem troot_ord {F : Fld} (hg : GoodFld F) {n : Int} (hn : 0 < n) (hd : (F.p - 1) % n = 0) (inv : Bool) (k : Nat) : trootI F n inv ^ k % F.p = 1 ↔ n.toNat ∣ k := by
  cases inv with
  | false => exact hg.root_ord hn hd k
  | true =>
    rw [← hg.root_ord hn hd k]
    show invF F.p (rootI F n) ^ k % F.p = 1 ↔ _
    have h := pow_inv_one hg (hg.inv (hg.root_ne hn hd)).2.1 k
    constructor
    · intro e
      rw [← emod_mul_l, e, Int.one_mul] at h
      exact h
    · intro e
      rw [← emod_mul_r, e, Int.mul_one] at h
      exact h
noncomputable def trootS (F : Fld) (n : Int) (inv : Bool) : Int × Int := if n < 1 then (0, 1) else if n > 4096 then (0, 13) else if (F.p - 1) % n = 0 then (trootI F n inv, 0) else (0, 4)
theorem troot_ev {F : Fld} (hg : GoodFld F) {n : Int} (hn : I64 n) (inv : Bool) : Ev (fun k => twiddle_Root.f k [F] n inv) (trootS F n inv) := by
  refine Ev.congr (f := fun k => if n < 1 then some (0, 1) else (if n > 4096 then some (0, 13) else ((field_Field_Root.f [F] n).bind fun bt113 => (if bt113.2 = 0 then (twiddle_Root.j0 k [F] bt113.1 bt113.2 inv) else (twiddle_Root.j0 k [F] bt113.1 bt113.2 false))))) (fun k => by unfold twiddle_Root.f; rw [if_neg (by simp)]) ?_
  unfold trootS
  by_cases h1 : n < 1
  · rw [if_pos h1]; exact evP h1 (Ev.now _)
  rw [if_neg h1]
  refine evN h1 ?_
  by_cases h2 : n > 4096
  · rw [if_pos h2]; exact evP h2 (Ev.now _)
  rw [if_neg h2]
  refine evN h2 ?_
  have hj : ∀ w e, Ev (fun k => twiddle_Root.j0 k [F] w e false) (w, e) := fun w e => stepE ⟨_, fun k => by simp only [twiddle_Root.j0]; rw [if_neg (by decide)], Ev.now _⟩
  by_cases hd : (F.p - 1) % n = 0
  · rw [if_pos hd]
    refine evB (Root_at F hn.2 (by omega) hd) (evP rfl ?_)
    cases inv with
    | false => exact hj _ _
    | true => exact stepE ⟨_, fun k => by simp only [twiddle_Root.j0]; rw [if_pos trivial], evB (field_Field_Inv.at_ (hg.uRoot n)) (Ev.now _)⟩
  · rw [if_neg hd]
    refine evB (Root_not F hn.2 (fun h => hd h.2)) (evN (by decide) (hj _ _))
theorem table_l0 {F : Fld} (hg : GoodFld F) {w : Int} {n : Nat} (hn : n ≤ 4096) (d : Nat) : ∀ (i : Nat) (l : List Int), i + d = n → l.length = n → (∀ j, j < i → l[j]? = some (w ^ j % F.p)) →
    Ev (fun k => twiddle_Table.l0 k [F] (mIn F.p w) l (w ^ i % F.p) (n : Int) (i : Int)) (powL F.p w n, 0) := by
  induction d with
  | zero =>
    intro i l hi hl hj
    refine stepE ⟨_, fun k => by simp only [twiddle_Table.l0]; rw [if_neg (by omega)], evR (Ev.now _) ?_⟩
    congr 1
    refine List.ext_getElem? fun j => ?_
    by_cases c : j < n
    · rw [hj j (by omega), powL_at c]
    · rw [List.getElem?_eq_none (by omega), List.getElem?_eq_none (by rw [powL_len]; omega)]
  | succ d ih =>
    intro i l hi hl hj
    have T := field_Field_Times.at_ (F := F) (l := []) ⟨show U (mIn F.p w) from hg.uE _, hg.uE (w ^ i)⟩
    rw [mul_in hg.m, emod_mul_r, Int.mul_comm, ← Int.pow_succ] at T
    refine stepE ⟨_, fun k => by simp only [twiddle_Table.l0]; rw [if_pos (by omega), if_pos (by omega), if_pos (by omega), wrap_succ (by omega), Int.toNat_natCast], ?_⟩
    refine evB T (ih (i + 1) (l.set i (w ^ i % F.p)) (by omega) (by rw [List.length_set]; exact hl) fun j hj' => ?_)
    by_cases c : j = i
    · subst c
      rw [List.getElem?_set_self (by omega)]
    · rw [List.getElem?_set_ne (by omega)]
      exact hj j (by omega)
theorem table_ev {F : Fld} (hg : GoodFld F) {n : Int} (h1 : 1 ≤ n) (h2 : n ≤ 4096) (hd : (F.p - 1) % n = 0) (inv : Bool) : Ev (fun k => twiddle_Table.f k [F] n inv) (powL F.p (trootI F n inv) n.toNat, 0) := by
  have R := troot_ev hg (n := n) ⟨by omega, by omega⟩ inv
  have e : trootS F n inv = (trootI F n inv, 0) := by unfold trootS; rw [if_neg (by omega), if_neg (by omega), if_pos hd]
  rw [e] at R
  refine Ev.congr (fun k => rfl) (Ev.bind R (evP rfl (evB (field_Field_Lift.at_ (F := F) (l := []) (troot_U hg n inv)) (evP (by omega) (evP (by omega) ?_)))))
  have T := table_l0 hg (w := trootI F n inv) (n := n.toNat) (by omega) n.toNat 0 (List.replicate n.toNat 0) (by omega) (List.length_replicate) (fun j hj => by omega)
  rw [Int.pow_zero, hg.one] at T
  refine Ev.congr (fun k => ?_) T
  simp only [Option.bind_some, List.length_replicate]
  rfl
end Go.Proofs.YtndkmnjbjlfeaaaGreat.T10
end
section
namespace Go.Proofs.YtndkmnjbjlfeaaaGreat.D11
open Go Go.RowKit Go.Proofs.YtndkmnjbjlfeaaaGreatW.PrintWords Go.Proofs.YtndkmnjbjlfeaaaGreat.M Go.Proofs.YtndkmnjbjlfeaaaGreat.Mont Go.Proofs.YtndkmnjbjlfeaaaGreat.Num Go.Proofs.YtndkmnjbjlfeaaaGreat.F06 Go.Proofs.YtndkmnjbjlfeaaaGreat.T10
def sumN (f : Nat → Int) : Nat → Int
  | 0 => 0
  | n + 1 => sumN f n + f n
theorem sumN_succ (f : Nat → Int) (n : Nat) : sumN f (n + 1) = sumN f n + f n := rfl
theorem sumN_congr {f g : Nat → Int} {n : Nat} (h : ∀ i, i < n → f i = g i) : sumN f n = sumN g n := by
  induction n with
  | zero => rfl
  | succ n ih => rw [sumN_succ, sumN_succ, ih fun i hi => h i (by omega), h n (by omega)]
theorem sumN_add (f g : Nat → Int) (n : Nat) : sumN (fun i => f i + g i) n = sumN f n + sumN g n := by
  induction n with
  | zero => rfl
  | succ n ih => rw [sumN_succ, sumN_succ, sumN_succ, ih]; omega
theorem sumN_mul (c : Int) (f : Nat → Int) (n : Nat) : sumN (fun i => c * f i) n = c * sumN f n := by
  induction n with
  | zero => show 0 = c * 0; rw [Int.mul_zero]
  | succ n ih => rw [sumN_succ, sumN_succ, ih, Int.mul_add]
theorem sumN_mulr (c : Int) (f : Nat → Int) (n : Nat) : sumN (fun i => f i * c) n = sumN f n * c := by
  rw [Int.mul_comm, ← sumN_mul]
  exact sumN_congr fun i _ => Int.mul_comm _ _
theorem sumN_zero (n : Nat) : sumN (fun _ => 0) n = 0 := by
  induction n with
  | zero => rfl
  | succ n ih => rw [sumN_succ, ih]; rfl
theorem sumN_comm (f : Nat → Nat → Int) (n m : Nat) : sumN (fun i => sumN (fun j => f i j) m) n = sumN (fun j => sumN (fun i => f i j) n) m := by
  induction n with
  | zero => exact (sumN_zero m).symm
  | succ n ih => rw [sumN_succ, ih, ← sumN_add]; rfl
theorem sumN_split (f : Nat → Int) (a b : Nat) : sumN f (a + b) = sumN f a + sumN (fun i => f (a + i)) b := by
  induction b with
  | zero => show sumN f a = sumN f a + 0; omega
  | succ b ih => rw [← Nat.add_assoc, sumN_succ, ih, sumN_succ]; omega
theorem add_cong {p a b c d : Int} (h : a % p = b % p) (h' : c % p = d % p) : (a + c) % p = (b + d) % p := by rw [Int.add_emod, h, h', ← Int.add_emod]
theorem mul_cong {p a b c d : Int} (h : a % p = b % p) (h' : c % p = d % p) : a * c % p = b * d % p := by rw [Int.mul_emod, h, h', ← Int.mul_emod]
theorem sumN_mod {p : Int} {f g : Nat → Int} {n : Nat} (h : ∀ i, i < n → f i % p = g i % p) : sumN f n % p = sumN g n % p := by
  induction n with
  | zero => rfl
  | succ n ih => exact add_cong (ih fun i hi => h i (by omega)) (h n (by omega))
theorem sumN_one {p : Int} {f : Nat → Int} {n k : Nat} (hk : k < n) (h : ∀ i, i < n → i ≠ k → f i % p = 0) : sumN f n % p = f k % p := by
  have e : sumN f n % p = sumN (fun i => if i = k then f k else 0) n % p := sumN_mod fun i hi => by
    by_cases c : i = k
    · rw [if_pos c, c]
    · rw [if_neg c, h i hi c, Int.zero_emod]
  rw [e]
  obtain ⟨m, rfl⟩ : ∃ m, n = k + (1 + m) := ⟨n - k - 1, by omega⟩
  rw [sumN_split, sumN_split]
  have e1 : sumN (fun i => if i = k then f k else 0) k = 0 := (sumN_congr fun i hi => if_neg (show ¬ i = k by omega)).trans (sumN_zero k)
  have e2 : sumN (fun i => if k + i = k then f k else 0) 1 = f k := by show 0 + (if k + 0 = k then f k else 0) = f k; rw [if_pos (Nat.add_zero k)]; omega
  have e3 : sumN (fun i => if k + (1 + i) = k then f k else 0) m = 0 := (sumN_congr fun i hi => if_neg (show ¬ k + (1 + i) = k by omega)).trans (sumN_zero m)
  rw [e1, e2, e3]
  congr 1
  omega
theorem sumN_geo (x : Int) (n : Nat) : sumN (fun i => x ^ i) n = geo x n := by
  induction n with
  | zero => rfl
  | succ n ih => rw [sumN_succ, ih]; rfl
structure Roots (F : Fld) (n : Nat) (w v : Int) : Prop where
  good : GoodFld F
  pos : 1 ≤ n
  lt : (n : Int) < F.p
  w_ord : ∀ k, w ^ k % F.p = 1 ↔ n ∣ k
  v_ord : ∀ k, v ^ k % F.p = 1 ↔ n ∣ k
  one : w * v % F.p = 1
variable {F : Fld} {n : Nat} {w v : Int}
theorem Roots.swap (R : Roots F n w v) : Roots F n v w := ⟨R.good, R.pos, R.lt, R.v_ord, R.w_ord, by rw [Int.mul_comm]; exact R.one⟩
theorem Roots.ones (R : Roots F n w v) (k : Nat) : w ^ k * v ^ k % F.p = 1 := pow_inv_one R.good R.one k
theorem Roots.ne (R : Roots F n w v) (k : Nat) : w ^ k % F.p ≠ 0 := by
  intro c
  have h := R.ones k
  rw [← emod_mul_l, c, Int.zero_mul, Int.zero_emod] at h
  omega
theorem Roots.inj (R : Roots F n w v) {a b : Nat} (ha : a < n) (hb : b < n) (h : w ^ a % F.p = w ^ b % F.p) : a = b := by
  have key : ∀ x y : Nat, x ≤ y → y < n → w ^ x % F.p = w ^ y % F.p → x = y := by
    intro x y hxy hy e
    have e' : w ^ (y - x) * w ^ x % F.p = 1 * w ^ x % F.p := by rw [← Int.pow_add, Nat.sub_add_cancel hxy, Int.one_mul, e]
    have := R.good.cancel (R.ne x) e'
    rw [R.good.one] at this
    have := (R.w_ord (y - x)).1 this
    by_cases c : y - x = 0
    · omega
    · have := Nat.le_of_dvd (by omega) this
      omega
  rcases Nat.le_total a b with c | c
  · exact key a b c hb h
  · exact (key b a c ha h.symm).symm
theorem Roots.cross (R : Roots F n w v) {a b : Nat} (ha : a < n) (hb : b < n) : w ^ a * v ^ b % F.p = 1 ↔ a = b := by
  constructor
  · intro h
    refine R.inj ha hb ?_
    refine R.good.cancel (c := v ^ b) (R.swap.ne b) ?_
    rw [h, R.ones b]
  · rintro rfl
    exact R.ones a
theorem ortho (hg : GoodFld F) {x : Int} (h1 : x ^ n % F.p = 1) : sumN (fun i => x ^ i) n % F.p = if x % F.p = 1 then (n : Int) % F.p else 0 := by
  rw [sumN_geo]
  by_cases c : x % F.p = 1
  · rw [if_pos c]; exact geo_one (by rw [c, hg.one]) n
  · rw [if_neg c]; exact hg.geo_zero h1 c
theorem Roots.sum (R : Roots F n w v) {a b : Nat} (ha : a < n) (hb : b < n) : sumN (fun i => w ^ (i * a) * v ^ (b * i)) n % F.p = if a = b then (n : Int) % F.p else 0 := by
  have e : sumN (fun i => w ^ (i * a) * v ^ (b * i)) n = sumN (fun i => (w ^ a * v ^ b) ^ i) n := sumN_congr fun i _ => by
    rw [Int.mul_pow, ← Int.pow_mul, ← Int.pow_mul, Nat.mul_comm i a]
  have h1 : (w ^ a * v ^ b) ^ n % F.p = 1 := by
    rw [Int.mul_pow, ← Int.pow_mul, ← Int.pow_mul, ← emod_mul_l, (R.w_ord (a * n)).2 (Nat.dvd_mul_left _ _), Int.one_mul]
    exact (R.v_ord _).2 (Nat.dvd_mul_left _ _)
  rw [e, ortho R.good h1]
  by_cases c : a = b
  · rw [if_pos c, if_pos ((R.cross ha hb).2 c)]
  · rw [if_neg c, if_neg fun h => c ((R.cross ha hb).1 h)]
def dftA (w : Int) (f : Nat → Int) (n i : Nat) : Int := sumN (fun j => w ^ (i * j) * f j) n
theorem Roots.back (R : Roots F n w v) (f : Nat → Int) {k : Nat} (hk : k < n) : dftA v (fun i => dftA w f n i) n k % F.p = n * f k % F.p := by
  unfold dftA
  have e : sumN (fun j => v ^ (k * j) * sumN (fun j_1 => w ^ (j * j_1) * f j_1) n) n = sumN (fun j => sumN (fun i => w ^ (i * j) * v ^ (k * i)) n * f j) n := by
    have e1 : sumN (fun j => v ^ (k * j) * sumN (fun j_1 => w ^ (j * j_1) * f j_1) n) n = sumN (fun i => sumN (fun j => w ^ (i * j) * v ^ (k * i) * f j) n) n := sumN_congr fun i _ => by
      rw [← sumN_mul]
      exact sumN_congr fun j _ => by rw [Int.mul_left_comm, Int.mul_assoc]
    rw [e1, sumN_comm]
    exact sumN_congr fun j _ => sumN_mulr _ _ _
  rw [e, sumN_one hk fun j hj hne => by rw [← emod_mul_l, R.sum hj hk, if_neg hne, Int.zero_mul, Int.zero_emod]]
  rw [← emod_mul_l, R.sum hk hk, if_pos rfl, emod_mul_l]
end Go.Proofs.YtndkmnjbjlfeaaaGreat.D11
end
section
namespace Go.Proofs.YtndkmnjbjlfeaaaGreat.D11
open Go Go.RowKit Go.Proofs.YtndkmnjbjlfeaaaGreatW.PrintWords Go.Proofs.YtndkmnjbjlfeaaaGreat.M Go.Proofs.YtndkmnjbjlfeaaaGreat.Mont Go.Proofs.YtndkmnjbjlfeaaaGreat.Num Go.Proofs.YtndkmnjbjlfeaaaGreat.F06 Go.Proofs.YtndkmnjbjlfeaaaGreat.T10
variable {F : Fld} {n : Nat} {w v : Int}
theorem Roots.expo (R : Roots F n w v) (a : Nat) : w ^ a % F.p = w ^ (a % n) % F.p := by
  have h : w ^ (n * (a / n)) % F.p = 1 := (R.w_ord _).2 (Nat.dvd_mul_right _ _)
  have e : w ^ a = w ^ (n * (a / n)) * w ^ (a % n) := by rw [← Int.pow_add, Nat.div_add_mod]
  rw [e, ← emod_mul_l, h, Int.one_mul]
theorem Roots.other (R : Roots F n w v) (f : Nat → Int) {k k' : Nat} (h : n ∣ k + k') : dftA w f n k % F.p = dftA v f n k' % F.p := by
  refine sumN_mod fun j _ => mul_cong ?_ rfl
  have h1 : w ^ (k' * j) * v ^ (k' * j) % F.p = 1 := R.ones _
  have h2 : w ^ (k * j + k' * j) % F.p = 1 := (R.w_ord _).2 (by rw [← Nat.add_mul]; exact Nat.dvd_trans h (Nat.dvd_mul_right _ _))
  have e : w ^ (k * j) * (w ^ (k' * j) * v ^ (k' * j)) % F.p = 1 * v ^ (k' * j) % F.p := by
    rw [← Int.mul_assoc, ← Int.pow_add]
    exact mul_cong (by rw [h2, R.good.one]) rfl
  rw [Int.one_mul, Int.mul_comm, ← emod_mul_l, h1, Int.one_mul] at e
  exact e
theorem neg_dvd {k : Nat} (hk : k < n) : n ∣ k + (n - k) % n := by
  by_cases c : k = 0
  · subst c
    rw [Nat.sub_zero, Nat.mod_self]
    exact Nat.dvd_zero n
  · rw [Nat.mod_eq_of_lt (by omega), show k + (n - k) = n by omega]
    exact Nat.dvd_refl n
theorem Roots.twice (R : Roots F n w v) (f : Nat → Int) {j : Nat} (hj : j < n) : dftA w (fun i => dftA w f n i) n ((n - j) % n) % F.p = n * f j % F.p := by
  rw [R.other (fun i => dftA w f n i) (k' := j) (by rw [Nat.add_comm]; exact neg_dvd hj), R.back f hj]
theorem Roots.pairs (R : Roots F n w v) (a b : Nat → Int) : sumN (fun i => dftA w a n i * dftA w b n ((n - i) % n)) n % F.p = n * sumN (fun j => a j * b j) n % F.p := by
  have h1 : sumN (fun i => dftA w a n i * dftA w b n ((n - i) % n)) n % F.p = sumN (fun i => dftA w a n i * dftA v b n i) n % F.p :=
    sumN_mod fun i hi => mul_cong rfl (R.other b (by rw [Nat.add_comm]; exact neg_dvd hi))
  have h2 : sumN (fun i => dftA w a n i * dftA v b n i) n = sumN (fun j => a j * dftA w (fun i => dftA v b n i) n j) n := by
    have e1 : sumN (fun i => dftA w a n i * dftA v b n i) n = sumN (fun i => sumN (fun j => w ^ (i * j) * a j * dftA v b n i) n) n := sumN_congr fun i _ => (sumN_mulr _ _ _).symm
    rw [e1, sumN_comm]
    refine sumN_congr fun j _ => ?_
    show _ = a j * sumN (fun i => w ^ (j * i) * dftA v b n i) n
    rw [← sumN_mul]
    exact sumN_congr fun i _ => by rw [Nat.mul_comm j i, Int.mul_comm (w ^ (i * j)), Int.mul_assoc]
  rw [h1, h2, ← sumN_mul]
  refine sumN_mod fun j hj => ?_
  rw [Int.mul_left_comm]
  exact mul_cong rfl (R.swap.back b hj)
end Go.Proofs.YtndkmnjbjlfeaaaGreat.D11
end
section
namespace Go.Proofs.YtndkmnjbjlfeaaaGreat.XW
open Go Go.RowKit Go.Proofs.YtndkmnjbjlfeaaaGreatW.PrintWords Go.Proofs.YtndkmnjbjlfeaaaGreatW.PrintLast Go.Proofs.YtndkmnjbjlfeaaaGreatW.PrintMore Go.Proofs.YtndkmnjbjlfeaaaGreat.Given Go.Proofs.YtndkmnjbjlfeaaaGreat.M Go.Proofs.YtndkmnjbjlfeaaaGreat.Mont Go.Proofs.YtndkmnjbjlfeaaaGreat.XS Go.Proofs.YtndkmnjbjlfeaaaGreat.XT Go.Proofs.YtndkmnjbjlfeaaaGreat.XR Go.Proofs.YtndkmnjbjlfeaaaGreat.F06
def liftV (l0 : List Fld) (x : Int) : Int := match l0 with
  | [] => 0
  | F :: _ => mIn F.p x
theorem liftV_f {l0 : List Fld} {x : Int} (h : U x) : field_Field_Lift.f l0 x = some (liftV l0 x) := by
  unfold field_Field_Lift.f liftV
  rw [if_pos h]
  cases l0 <;> rfl
noncomputable def twiddle_Lifted.f (k : Nat) (l0 : List Fld) (a1 : Int) (a2 : Bool) : Option (List Int × Int) :=
  (twiddle_Table.f k l0 a1 a2).bind fun t => if (∀ x ∈ t.1, U x) ∧ t.1.length ≤ 1000000 then some (t.1.map (liftV l0), t.2) else none
def mixL (l0 : List Fld) (t : List Int) (i : Nat) : List Int := (t.take i).map (liftV l0) ++ t.drop i
theorem mix_len (l0 : List Fld) {t : List Int} {i : Nat} (h : i ≤ t.length) : (mixL l0 t i).length = t.length := by
  unfold mixL
  rw [List.length_append, List.length_map, List.length_take, List.length_drop]
  omega
theorem mix_rd (l0 : List Fld) {t : List Int} {i : Nat} (h : i < t.length) : (mixL l0 t i).getD i 0 = t[i] := by
  unfold mixL
  have hl : ((t.take i).map (liftV l0)).length = i := by rw [List.length_map, List.length_take]; omega
  rw [List.getD_eq_getElem?_getD, List.getElem?_append_right (by omega), hl, Nat.sub_self, List.getElem?_drop, Nat.add_zero, List.getElem?_eq_getElem h]
  rfl
theorem mix_set (l0 : List Fld) {t : List Int} {i : Nat} (h : i < t.length) : (mixL l0 t i).set i (liftV l0 t[i]) = mixL l0 t (i + 1) := by
  unfold mixL
  have hl : ((t.take i).map (liftV l0)).length = i := by rw [List.length_map, List.length_take]; omega
  rw [List.set_append_right _ _ (by omega), hl, Nat.sub_self, List.drop_eq_getElem_cons h, List.set_cons_zero, List.take_succ_eq_append_getElem h, List.map_append, List.append_assoc]
  rfl
set_option maxHeartbeats 4000000 in
set_option maxRecDepth 100000 in
theorem twiddle_Lifted.calls (k : Nat) (A0 : Option Addr) (c0 : Nat) (l0 : List (Fld)) (a1 : Int) (a2 : Bool) (r1 : List Int) (r2 : Int) (w : World) (hr0 : Kd.C kFld w A0 l0.length l0) (hc0 : l0.length ≤ c0) (h : twiddle_Lifted.f k l0 a1 a2 = some (r1, r2)) :
    Calls Tryz.prog 66 #[toPtr (.slice A0 l0.length c0), .int .i64 a1, .bool a2] w fun e w' => ∃ v0_ : Value, e = .returned (.tuple #[v0_, .int .i64 r2]) ∧ Kd.R (Kd.int .u64) 22 w' w.heap.size (fun _ => True) v0_ r1 ∧ Below w.heap.size w w' := by
  unfold twiddle_Lifted.f at h
  obtain ⟨⟨t1, t2⟩, hA, h⟩ := Option.bind_eq_some_iff.1 h
  simp only at h
  split at h
  case isFalse => cases h
  rename_i hu
  obtain ⟨rfl, rfl⟩ := Prod.mk.inj (Option.some.inj h)
  obtain ⟨hu, hn⟩ := hu
  have HA := Aside0.mk hA
  have HR0 := Aside0.mk hr0
  have HC0 := Aside0.mk hc0
  have HU := Aside0.mk hu
  have HN := Aside0.mk hn
  clear hA hr0 hc0 hu hn h
  go_enter Tryz.func66, Tryz.ntmps66
  go_wp2_with (first
    | (go_at_call 103; (with_reducible refine (twiddle_Table.calls k A0 c0 l0 a1 a2 t1 t2 _ HR0.out HC0.out HA.out).mono ?_); rintro e w1 ⟨v1, rfl, ho, hb⟩; obtain ⟨A1, c1, rfl⟩ := Kd.R_slice ho; have HO1 := Aside0.mk ho; have HB1 := Aside0.mk hb; clear ho hb))
  clear HA
  go_loopw [21] (fun v21 wr => ∃ (x : Int), v21 = .int .i64 x ∧ 0 ≤ x ∧ x ≤ (t1.length : Int) ∧ Aside0 (Kd.R (Kd.int .u64) 22 wr w.heap.size (fun _ => True) (.slice A1 t1.length c1) (mixL l0 t1 x.toNat)) ∧ Aside0 (Below w.heap.size w wr)) (fun v21 _ => t1.length - (intOf v21).toNat)
  case atStart => exact ⟨0, rfl, Int.le_refl _, Int.natCast_nonneg _, ⟨HO1.out⟩, ⟨HB1.out⟩⟩
  case round =>
    clear HO1 HB1
    obtain ⟨x, rfl, h0, hx, HO, HB⟩ := hrel
    by_cases hlt : x < (t1.length : Int)
    · have c1b0 : decide (x < (t1.length : Int)) = true := decide_eq_true hlt
      have hi : x.toNat < t1.length := by omega
      obtain ⟨y, hy⟩ : ∃ y, y = t1[x.toNat] := ⟨_, rfl⟩
      have hL := liftV_f (l0 := l0) (HU.out y (by rw [hy]; exact List.getElem_mem hi))
      have hset := mix_set l0 hi
      have hrd := mix_rd l0 hi
      rw [← hy] at hset hrd
      have HL := Aside0.mk hL
      have HS := Aside0.mk hset
      have ml := mix_len l0 (t := t1) (i := x.toNat) (by omega)
      obtain ⟨g, cap, eo, gb, gl, HG⟩ := Kd.R_form HO.out (by omega)
      injection eo with ea en ec
      subst ea
      have GB := Aside0.mk gb
      obtain ⟨hx_0, hf_0⟩ := Kd.R_celln 0 HO.out x h0 hlt
      have erd : rdOf 0 (mixL l0 t1 x.toNat) x = y := hrd
      rw [erd] at hx_0
      have p1 := eq_true h0
      have q1 := eq_true hlt
      have HLT := Aside0.mk hlt
      have H0 := Aside0.mk h0
      clear hL hset hrd ml en ec gb gl HG erd hy hi hlt hx h0
      go_wp2_with (first
        | (go_at_call 60; (with_reducible refine (field_Field_Lift.calls A0 c0 l0 y (liftV l0 y) _ (Kd.C_below HR0.out HB.out) HC0.out HL.out).mono ?_); rintro e w2 ⟨rfl, ⟨nd, hnd⟩⟩; have HO2 : Aside0 (Kd.R (Kd.int .u64) 22 w2 w.heap.size (fun _ => True) (.slice (some ⟨g, 0, none⟩) t1.length c1) (mixL l0 t1 x.toNat)) := ⟨by rw [hnd]; exact Kd.R_drewN HO.out nd⟩; have HB2 : Aside0 (Below w.heap.size w w2) := ⟨by rw [hnd]; exact pw_below_drewN HB.out nd⟩; have hf2 : w2.frozen? ⟨g, x.toNat, none⟩ = false := (by rw [hnd]; exact hf_0); have hx2 : w2.cell? ⟨g, x.toNat, none⟩ = some (.int .u64 y) := (by rw [hnd]; exact hx_0); clear hnd))
      go_roundw
      case rel =>
        have := HLT.out
        have := H0.out
        have hn := HN.out
        exact ⟨x + 1, congrArg (Value.int .i64) (w64_id (x + 1) (by omega) (by omega)), by omega, by omega, ⟨by rw [show (x + 1).toNat = x.toNat + 1 by omega, ← HS.out]; exact (Kd.R_putg HO2.out x (liftV l0 y)).1⟩, ⟨below_set HB2.out GB.out⟩⟩
      case measure =>
        have := HLT.out
        have := H0.out
        have hn := HN.out
        rw [w64_id (x + 1) (by omega) (by omega)]
        simp [intOf]; omega
    · have c1b0 : decide (x < (t1.length : Int)) = false := decide_eq_false hlt
      have hm : mixL l0 t1 x.toNat = t1.map (liftV l0) := by
        unfold mixL
        rw [List.take_of_length_le (by omega), List.drop_eq_nil_of_le (by omega), List.append_nil]
      have HM := Aside0.mk hm
      clear hm hlt hx h0
      go_wp2
      go_ret2
      exact ⟨_, by first | rfl | (simp; done), by rw [← HM.out]; exact HO.out, HB.out⟩
end Go.Proofs.YtndkmnjbjlfeaaaGreat.XW
end
section
namespace Go.Proofs.YtndkmnjbjlfeaaaGreat.XG
open Go.RowKit Go.Proofs.YtndkmnjbjlfeaaaGreat.Given Go.Proofs.YtndkmnjbjlfeaaaGreat.Row05 Go.Proofs.YtndkmnjbjlfeaaaGreat.XS Go.Proofs.YtndkmnjbjlfeaaaGreat.XT Go.Proofs.YtndkmnjbjlfeaaaGreat.XR Go.Proofs.YtndkmnjbjlfeaaaGreat.F06 Go.Proofs.YtndkmnjbjlfeaaaGreat.XK Go.Proofs.YtndkmnjbjlfeaaaGreat.XW Go.Proofs.YtndkmnjbjlfeaaaGreatW.PrintWords Go.Proofs.YtndkmnjbjlfeaaaGreatW.PrintLast Go.Proofs.YtndkmnjbjlfeaaaGreatW.PrintMore
attribute [local go_sem] max2_int min2_int max_two min_two max_three min_three max_four min_four   -- for this text's walks alone
set_option linter.unusedVariables false
set_option linter.unusedSimpArgs false
mutual
noncomputable def epicyclelaw11_rows.l0 : Nat → List (S94) → List (S134) → Int → Int → Option ((List (S94)))
 | 0, _, _, _, _ => none
 | k + 1, x3, x9, x10, x11 => if x11 < x10 then (if 0 ≤ x11 then (if x11 < (x9.length : Int) then (epicyclelaw11_rows.l1 k x3 ([] : List (S147)) x9 x10 x11 ((rd_T134 x9 x11).f2) (((rd_T134 x9 x11).f2).length : Int) 0 ((rd_T134 x9 x11).f0) ((rd_T134 x9 x11).f1) ((rd_T134 x9 x11).f2)) else (none)) else (none)) else (some x3)
noncomputable def epicyclelaw11_rows.l1 : Nat → List (S94) → List (S147) → List (S134) → Int → Int → List (S146) → Int → Int → Int → Int → List (S146) → Option ((List (S94)))
 | 0, _, _, _, _, _, _, _, _, _, _, _ => none
 | k + 1, x3, x6, x9, x10, x11, x16, x17, x18, x152000, x152001, x152002 => if x18 < x17 then (if 0 ≤ x18 then (if x18 < (x16.length : Int) then (if x6.length < 8796093022208 then (epicyclelaw11_rows.l1 k x3 (x6 ++ [(⟨(rd_T146 x16 x18).f0, (rd_T146 x16 x18).f1⟩ : S147)]) x9 x10 x11 x16 x17 (wrap64 (x18 + 1)) x152000 x152001 x152002) else (none)) else (none)) else (none)) else (if x3.length < 3518437208883 then (epicyclelaw11_rows.l0 k (x3 ++ [(⟨x152000, x152001, x6⟩ : S94)]) x9 x10 (wrap64 (x11 + 1))) else (none))
end
noncomputable def epicyclelaw11_rows.f (k : Nat) (l0 : List (S134)) : Option ((List (S94))) := epicyclelaw11_rows.l0 k ([] : List (S94)) l0 (l0.length : Int) 0
set_option maxHeartbeats 8000000 in
set_option maxRecDepth 100000 in
theorem epicyclelaw11_rows.calls (k : Nat) (A0 : Option Addr) (c0 : Nat) (l0 : List (S134)) (r : List (S94)) (w : World) (hr0 : Kd.C k134 w A0 l0.length l0) (hc0 : l0.length ≤ c0) (h : epicyclelaw11_rows.f k l0 = some r) :
  Calls Tryz.prog 52 #[.slice A0 l0.length c0] w fun e w' => ∃ v0_ : Value, e = .returned (v0_) ∧ Kd.S k94 94 w' w.heap.size (fun _ => True) v0_ r ∧ Below w.heap.size w w' := by
 have hu134 := Tryz.underlying134
 have hu146 := Tryz.underlying146
 have hu94 := Tryz.underlying94
 have HR0 := Aside0.mk hr0
 have HC0 := Aside0.mk hc0
 clear hr0 hc0
 have HB := Aside0.mk (Below.refl w.heap.size w)
 have H := h; unfold epicyclelaw11_rows.f at H
 clear h
 have H' := Aside0.mk H
 clear H
 go_enter Tryz.func52, Tryz.ntmps52
 go_wp2
 go_loopg [3, 11] k (fun kq v3 v11 w' => ∃ (x3_1 : List (S94)) (x11_1 : Int), v11 = .int .i64 x11_1 ∧ Aside0 (epicyclelaw11_rows.l0 kq x3_1 l0 (l0.length : Int) x11_1 = some r) ∧ Aside0 (kq ≤ k) ∧ Aside0 (Kd.S k94 94 w' w.heap.size (fun _ => True) v3 x3_1) ∧ Aside0 (Below w.heap.size w w'))
 case atStart => exact ⟨(([] : List (S94))), (0), (by first | rfl | (simp; done) | (simp [*]; done)), H', ⟨Nat.le_refl _⟩, ⟨by first | exact Kd.S_nil _ _ _ _ _ | exact Kd.N_nil _ _ _ _ _ | exact Kd.V_nil _ _ _ _ _ | exact Kd.Q_nil _ _ _ _ _ | exact Kd.R_nil _ _ _ _ _⟩, ⟨bel_⟩⟩
 case round =>
  clear H'
  obtain ⟨x3_1, x11_1, rfl, HA, HK1, HO_3, HB⟩ := hrel
  cases gk with
  | zero => exact absurd HA.out (by simp [epicyclelaw11_rows.l0])
  | succ k1 =>
   have H := HA.out
   clear HA
   simp only [epicyclelaw11_rows.l0] at H
   by_cases c2 : x11_1 < (l0.length : Int)
   ·rw [if_pos c2] at H
    have c2b0 := decide_eq_true c2
    clear c2
    by_cases c3 : 0 ≤ x11_1
    ·rw [if_pos c3] at H
     have c3b0 := decide_eq_true c3
     clear c3
     by_cases c4 : x11_1 < (l0.length : Int)
     ·rw [if_pos c4] at H
      have c4b0 := decide_eq_true c4
      clear c4
      have H' := Aside0.mk H
      clear H
      have p150 : 0 ≤ (x11_1 : Int) := of_decide_eq_true (by assumption)
      have q150 : x11_1 < (l0.length : Int) := of_decide_eq_true (by assumption)
      obtain ⟨ad150, A150_2, c150_2, e150, hx150_0, hx150_1, hx150_2, hl150_2, hi150_2⟩ := at_T134 HR0.out x11_1 p150 q150
      cases e150
      replace hx150_0 := (HB.out.cell (World.block_lt_of_cell? w _ hx150_0)).trans hx150_0
      replace hx150_1 := (HB.out.cell (World.block_lt_of_cell? w _ hx150_1)).trans hx150_1
      replace hx150_2 := (HB.out.cell (World.block_lt_of_cell? w _ hx150_2)).trans hx150_2
      have HR150_2 := Aside0.mk hi150_2
      have HC150_2 := Aside0.mk hl150_2
      clear hi150_2 hl150_2
      replace p150 := eq_true p150
      replace q150 := eq_true q150
      go_wp2_with (first | ((with_reducible refine gate_dst (N := 5) rfl ?_); refine box_event ?hg (N := 5) ?hd (cs := #[.int .u64 0, .int .u64 0, .slice none 0 0]) (t := 134) ?hr ?_; (case hd => rfl); (case hg => rfl); (case hr => first | (go_simp; done) | (go_simp; rfl)); intro gb151 hg w5 hbox hb; have n0_ := Aside0.mk (Kd.S_below (by (with_reducible repeat (first | apply Kd.S_alloc | apply Kd.S_drewN | apply Kd.S_drew)); exact HO_3.out) hb); have n1_ := Aside0.mk (below_step bel_ hb); have n2_ := Aside0.mk (hbox); have n3_ := Aside0.mk ((by rw [hg]; exact (below_size bel_) : w.heap.size ≤ gb151)); have n4_ := Aside0.mk ((by rw [hg]; exact (below_size bel_) : w.heap.size ≤ gb151)); clear HO_3; clear HB; have HO_3 := n0_; have HB := n1_; have BK151 := n2_; have GW151 := n3_; have GE151 := n4_; clear n0_ n1_ n2_ n3_ n4_; clear hb hbox hg; have hcz6_0 : w5.cell? ⟨gb151, 0, none⟩ = some (.int .u64 0) := (blk_cell BK151.out 0).trans rfl; have hcz6_1 : w5.cell? ⟨gb151, 1, none⟩ = some (.int .u64 0) := (blk_cell BK151.out 1).trans rfl; have hcz6_2 : w5.cell? ⟨gb151, 2, none⟩ = some (.slice none 0 0) := (blk_cell BK151.out 2).trans rfl; have hfz6_0 := blk_frozen BK151.out 0; have hfz6_1 := blk_frozen BK151.out 1; have hfz6_2 := blk_frozen BK151.out 2))
      go_loopg [6, 18] k1 (fun kq v6 v18 w' => ∃ (x6_2 : List (S147)) (x18_2 : Int), v18 = .int .i64 x18_2 ∧ Aside0 (epicyclelaw11_rows.l1 kq x3_1 x6_2 l0 (l0.length : Int) x11_1 ((rd_T134 l0 x11_1).f2) (((rd_T134 l0 x11_1).f2).length : Int) x18_2 ((rd_T134 l0 x11_1).f0) ((rd_T134 l0 x11_1).f1) ((rd_T134 l0 x11_1).f2) = some r) ∧ Aside0 (kq ≤ k1) ∧ Aside0 (Kd.S k94 94 w' w.heap.size (fun k_ => some k_ ≠ (v6 : Value).ownBlock) u3 x3_1) ∧ Aside0 (Kd.R k147 147 w' w.heap.size (fun _ => True) v6 x6_2) ∧ Aside0 (w'.heap[gb151]? = some (.cells #[.int .u64 ((rd_T134 l0 x11_1).f0), .int .u64 ((rd_T134 l0 x11_1).f1), (.slice A150_2 ((rd_T134 l0 x11_1).f2).length c150_2)] 134 (0, 0))) ∧ Aside0 (Below w.heap.size w w'))
      case atStart => exact ⟨(([] : List (S147))), (0), (by first | rfl | (simp; done) | (simp [*]; done)), H', ⟨Nat.le_refl _⟩, ⟨by (with_reducible repeat (first | apply Kd.S_alloc | apply Kd.S_drewN | apply Kd.S_drew)); exact Kd.S_mono (Kd.S_far (p := ⟨gb151, 2, none⟩) (Kd.S_far (p := ⟨gb151, 1, none⟩) (Kd.S_far (p := ⟨gb151, 0, none⟩) (Kd.S_types HO_3.out BK151.out (by decide)) (fun _ hk => hk.2) (.int .u64 ((rd_T134 l0 x11_1).f0))) (fun _ hk => hk.2) (.int .u64 ((rd_T134 l0 x11_1).f1))) (fun _ hk => hk.2) (.slice A150_2 ((rd_T134 l0 x11_1).f2).length c150_2)) (fun _ hk => (by simp [Value.ownBlock]))⟩, ⟨by first | exact Kd.R_nil _ _ _ _ _ | exact Kd.N_nil _ _ _ _ _ | exact Kd.V_nil _ _ _ _ _ | exact Kd.Q_nil _ _ _ _ _ | exact Kd.S_nil _ _ _ _ _⟩, ⟨by (with_reducible repeat (first | refine blk_drewN ?_ _ | refine blk_drew ?_ | refine blk_alloc ?_ _)); refine blk_put (cs := #[.int .u64 ((rd_T134 l0 x11_1).f0), .int .u64 ((rd_T134 l0 x11_1).f1), .slice none 0 0]) ?_ 2 _ rfl; (with_reducible repeat (first | refine blk_drewN ?_ _ | refine blk_drew ?_ | refine blk_alloc ?_ _)); refine blk_put (cs := #[.int .u64 ((rd_T134 l0 x11_1).f0), .int .u64 0, .slice none 0 0]) ?_ 1 _ rfl; (with_reducible repeat (first | refine blk_drewN ?_ _ | refine blk_drew ?_ | refine blk_alloc ?_ _)); refine blk_put (cs := #[.int .u64 0, .int .u64 0, .slice none 0 0]) ?_ 0 _ rfl; (with_reducible repeat (first | refine blk_drewN ?_ _ | refine blk_drew ?_ | refine blk_alloc ?_ _)); exact BK151.out⟩, ⟨bel_⟩⟩
      case round =>
       clear H'
       try clear c1
       try clear p1
       try clear q1
       try clear hx1
       try clear c2
       try clear c2b0
       try clear p2
       try clear c3
       try clear c3b0
       try clear c4
       try clear c4b0
       try clear c5
       try clear hcz6_0
       try clear hcz6_1
       try clear hcz6_2
       try clear hfz6_0
       try clear hfz6_1
       try clear hfz6_2
       try clear hx150_0
       try clear hx150_1
       try clear hx150_2
       try clear p150
       try clear q150
       obtain ⟨x6_2, x18_2, rfl, HA, HK2, HO_3, HO_6, BK151, HB⟩ := hrel
       cases gk with
       | zero => exact absurd HA.out (by simp [epicyclelaw11_rows.l1])
       | succ k2 =>
        have H := HA.out
        clear HA
        simp only [epicyclelaw11_rows.l1] at H
        by_cases c7 : x18_2 < (((rd_T134 l0 x11_1).f2).length : Int)
        ·rw [if_pos c7] at H
         have c7b0 := decide_eq_true c7
         clear c7
         by_cases c8 : 0 ≤ x18_2
         ·rw [if_pos c8] at H
          have c8b0 := decide_eq_true c8
          clear c8
          by_cases c9 : x18_2 < (((rd_T134 l0 x11_1).f2).length : Int)
          ·rw [if_pos c9] at H
           have c9b0 := decide_eq_true c9
           clear c9
           by_cases c10 : x6_2.length < 8796093022208
           ·rw [if_pos c10] at H
            have LMc10 := Aside0.mk c10
            clear c10
            obtain ⟨y154, hy154⟩ : ∃ y_ : List (S147), y_ = (x6_2 ++ [(⟨(rd_T146 ((rd_T134 l0 x11_1).f2) x18_2).f0, (rd_T146 ((rd_T134 l0 x11_1).f2) x18_2).f1⟩ : S147)]) := ⟨_, rfl⟩
            replace H : (epicyclelaw11_rows.l1 k2 x3_1 y154 l0 (l0.length : Int) x11_1 ((rd_T134 l0 x11_1).f2) (((rd_T134 l0 x11_1).f2).length : Int) (wrap64 (x18_2 + 1)) ((rd_T134 l0 x11_1).f0) ((rd_T134 l0 x11_1).f1) ((rd_T134 l0 x11_1).f2)) = some r := by first | (rw [hy154]; with_reducible exact H) | (have H2_ := (Option.bind_some _ _).symm.trans H; rw [hy154]; with_reducible exact H2_) | (have H2_ := (Option.bind_some _ _).symm.trans H; with_reducible exact H2_) | with_reducible exact H | (rw [hy154]; exact H) | exact H
            have Ny154 := Aside0.mk hy154
            clear hy154
            have H' := Aside0.mk H
            clear H
            have p152 : 0 ≤ (x18_2 : Int) := of_decide_eq_true (by assumption)
            have q152 : x18_2 < (((rd_T134 l0 x11_1).f2).length : Int) := of_decide_eq_true (by assumption)
            obtain ⟨ad152, e152, hx152_0, hx152_1⟩ := at_T146 HR150_2.out x18_2 p152 q152
            cases e152
            replace hx152_0 := (HB.out.cell (World.block_lt_of_cell? w _ hx152_0)).trans hx152_0
            replace hx152_1 := (HB.out.cell (World.block_lt_of_cell? w _ hx152_1)).trans hx152_1
            replace p152 := eq_true p152
            replace q152 := eq_true q152
            go_wp2_with (first | ((with_reducible refine gate_dst (N := 8) rfl ?_); refine box_event ?hg (N := 8) ?hd (cs := #[.int .u64 0, .int .i64 0]) (t := 146) ?hr ?_; (case hd => rfl); (case hg => rfl); (case hr => first | (go_simp; done) | (go_simp; rfl)); intro gb153 hg w11 hbox hb; have n0_ := Aside0.mk (Kd.S_below (by (with_reducible repeat (first | apply Kd.S_alloc | apply Kd.S_drewN | apply Kd.S_drew)); exact HO_3.out) hb); have n1_ := Aside0.mk (Kd.R_below (by (with_reducible repeat (first | apply Kd.R_alloc | apply Kd.R_drewN | apply Kd.R_drew)); exact HO_6.out) hb); have n2_ := Aside0.mk (blk_below (g := gb151) (o := .cells #[.int .u64 ((rd_T134 l0 x11_1).f0), .int .u64 ((rd_T134 l0 x11_1).f1), .slice (some ad152) ((rd_T134 l0 x11_1).f2).length c150_2] 134 (0, 0)) (by (with_reducible repeat (first | refine blk_drewN ?_ _ | refine blk_drew ?_ | refine blk_alloc ?_ _)); exact BK151.out) hb); have n3_ := Aside0.mk (below_step bel_ hb); have n4_ := Aside0.mk (hbox); have n5_ := Aside0.mk ((by rw [hg]; exact (below_size bel_) : w.heap.size ≤ gb153)); have n6_ := Aside0.mk ((by rw [hg]; exact (below_size bel_) : w.heap.size ≤ gb153)); have n7_ := Aside0.mk ((by rw [hg]; exact Nat.ne_of_lt (blk_lt (g := gb151) (o := .cells #[.int .u64 ((rd_T134 l0 x11_1).f0), .int .u64 ((rd_T134 l0 x11_1).f1), .slice (some ad152) ((rd_T134 l0 x11_1).f2).length c150_2] 134 (0, 0)) (by (with_reducible repeat (first | refine blk_drewN ?_ _ | refine blk_drew ?_ | refine blk_alloc ?_ _)); exact BK151.out)) : gb151 ≠ gb153)); have n8_ := Aside0.mk ((by rw [hg]; exact Nat.ne_of_gt (blk_lt (g := gb151) (o := .cells #[.int .u64 ((rd_T134 l0 x11_1).f0), .int .u64 ((rd_T134 l0 x11_1).f1), .slice (some ad152) ((rd_T134 l0 x11_1).f2).length c150_2] 134 (0, 0)) (by (with_reducible repeat (first | refine blk_drewN ?_ _ | refine blk_drew ?_ | refine blk_alloc ?_ _)); exact BK151.out)) : gb153 ≠ gb151)); clear HO_3; clear HO_6; clear BK151; clear HB; have HO_3 := n0_; have HO_6 := n1_; have BK151 := n2_; have HB := n3_; have BK153 := n4_; have GW153 := n5_; have GE153 := n6_; have NB151_153 := n7_; have NB153_151 := n8_; clear n0_ n1_ n2_ n3_ n4_ n5_ n6_ n7_ n8_; clear hb hbox hg; have hnb12 := NB153_151.out; have hnc12 := NB151_153.out; have hcz13_0 : w11.cell? ⟨gb153, 0, none⟩ = some (.int .u64 0) := (blk_cell BK153.out 0).trans rfl; have hcz13_1 : w11.cell? ⟨gb153, 1, none⟩ = some (.int .i64 0) := (blk_cell BK153.out 1).trans rfl; have hfz13_0 := blk_frozen BK153.out 0; have hfz13_1 := blk_frozen BK153.out 1) | ((with_reducible refine gate_builtin (b := .append) (xs := #[.tmp 22, .tmp 24]) rfl ?_); at_builtin; refine Kd.R_append k147 (w0 := w) w.heap.size rfl (.tmp 22) (.tmp 24) 92 147 (.agg #[(.int .u64 0), (.int .i64 0)]) 16 rfl Tryz.underlying92 info147 rfl (by decide) (by omega) u6 x6_2 (⟨(rd_T146 ((rd_T134 l0 x11_1).f2) x18_2).f0, (rd_T146 ((rd_T134 l0 x11_1).f2) x18_2).f1⟩ : S147) [.int .u64 ((rd_T146 ((rd_T134 l0 x11_1).f2) x18_2).f0), .int .i64 ((rd_T146 ((rd_T134 l0 x11_1).f2) x18_2).f1)] (fun _ => True) (fun _ => False) rfl (by first | (go_simp; done) | (go_simp; rfl)) ?aP (fun _ hk => hk.elim) ?aF ?aO ?aB ?aS ?aL ?_; (case aP => exact k147_mkM _ _ _ (⟨(rd_T146 ((rd_T134 l0 x11_1).f2) x18_2).f0, (rd_T146 ((rd_T134 l0 x11_1).f2) x18_2).f1⟩ : S147)); (case aB => exact bel_); (case aF => exact (fun _ _ => trivial)); (case aO => exact (by (with_reducible repeat (first | apply Kd.R_alloc | apply Kd.R_drewN | apply Kd.R_drew)); exact Kd.R_mono (Kd.R_far (p := ⟨gb153, 1, none⟩) (Kd.R_far (p := ⟨gb153, 0, none⟩) (Kd.R_types HO_6.out BK153.out (by decide)) (fun _ hk => hk.2) (.int .u64 ((rd_T146 ((rd_T134 l0 x11_1).f2) x18_2).f0))) (fun _ hk => hk.2) (.int .i64 ((rd_T146 ((rd_T134 l0 x11_1).f2) x18_2).f1))) (fun _ hk => trivial))); (case aS => exact (below_size bel_)); (case aL => have := LMc10.out; omega); intro v155 w14 ho hb hg hat; rw [← Ny154.out] at ho; have n0_ := Aside0.mk (Kd.S_after (ok := (fun _ => True)) (by (with_reducible repeat (first | apply Kd.S_alloc | apply Kd.S_drewN | apply Kd.S_drew)); exact Kd.S_mono (Kd.S_far (p := ⟨gb153, 1, none⟩) (Kd.S_far (p := ⟨gb153, 0, none⟩) (Kd.S_types HO_3.out BK153.out (by decide)) (fun _ hk => hk.2) (.int .u64 ((rd_T146 ((rd_T134 l0 x11_1).f2) x18_2).f0))) (fun _ hk => hk.2) (.int .i64 ((rd_T146 ((rd_T134 l0 x11_1).f2) x18_2).f1))) (fun _ hk => ⟨trivial, hk.1⟩)) hg hat); have n1_ := Aside0.mk (blk_grown (g := gb151) (o := .cells #[.int .u64 ((rd_T134 l0 x11_1).f0), .int .u64 ((rd_T134 l0 x11_1).f1), .slice (some ad152) ((rd_T134 l0 x11_1).f2).length c150_2] 134 (0, 0)) (by (with_reducible repeat (first | refine blk_drewN ?_ _ | refine blk_drew ?_ | refine blk_alloc ?_ _)); refine blk_far ?_ NB151_153.out _; (with_reducible repeat (first | refine blk_drewN ?_ _ | refine blk_drew ?_ | refine blk_alloc ?_ _)); refine blk_far ?_ NB151_153.out _; (with_reducible repeat (first | refine blk_drewN ?_ _ | refine blk_drew ?_ | refine blk_alloc ?_ _)); exact BK151.out) hg (Kd.R_ne HO_6.out BK151.out (by decide))); have n2_ := Aside0.mk (blk_grown (g := gb153) (o := .cells #[.int .u64 ((rd_T146 ((rd_T134 l0 x11_1).f2) x18_2).f0), .int .i64 ((rd_T146 ((rd_T134 l0 x11_1).f2) x18_2).f1)] 146 (0, 0)) (by (with_reducible repeat (first | refine blk_drewN ?_ _ | refine blk_drew ?_ | refine blk_alloc ?_ _)); refine blk_put (cs := #[.int .u64 ((rd_T146 ((rd_T134 l0 x11_1).f2) x18_2).f0), .int .i64 0]) ?_ 1 _ rfl; (with_reducible repeat (first | refine blk_drewN ?_ _ | refine blk_drew ?_ | refine blk_alloc ?_ _)); refine blk_put (cs := #[.int .u64 0, .int .i64 0]) ?_ 0 _ rfl; (with_reducible repeat (first | refine blk_drewN ?_ _ | refine blk_drew ?_ | refine blk_alloc ?_ _)); exact BK153.out) hg (Kd.R_ne HO_6.out BK153.out (by decide))); have n3_ := Aside0.mk (hb); have n4_ := Aside0.mk (ho); clear HO_3; clear BK151; clear BK153; clear HB; clear HO_6; have HO_3 := n0_; have BK151 := n1_; have BK153 := n2_; have HB := n3_; have HO156 := n4_; clear n0_ n1_ n2_ n3_ n4_; clear ho hb hg hat))
            go_roundg k2
            case measure => have := HK1.out; have := HK2.out; omega
            case rel => exact ⟨(y154), (wrap64 (x18_2 + 1)), (by first | rfl | (simp; done) | (simp [*]; done)), H', ⟨by have := HK1.out; have := HK2.out; omega⟩, ⟨by (with_reducible repeat (first | apply Kd.S_alloc | apply Kd.S_drewN | apply Kd.S_drew)); exact Kd.S_mono HO_3.out (fun _ hk => hk.2)⟩, ⟨by (with_reducible repeat (first | apply Kd.R_alloc | apply Kd.R_drewN | apply Kd.R_drew)); exact HO156.out⟩, ⟨by (with_reducible repeat (first | refine blk_drewN ?_ _ | refine blk_drew ?_ | refine blk_alloc ?_ _)); exact BK151.out⟩, ⟨bel_⟩⟩
           ·rw [if_neg c10] at H
            exact absurd H (by simp)
          ·rw [if_neg c9] at H
           exact absurd H (by simp)
         ·rw [if_neg c8] at H
          exact absurd H (by simp)
        ·rw [if_neg c7] at H
         have c7b0 := decide_eq_false c7
         clear c7
         by_cases c15 : x3_1.length < 3518437208883
         ·rw [if_pos c15] at H
          have LMc15 := Aside0.mk c15
          clear c15
          obtain ⟨y157, hy157⟩ : ∃ y_ : List (S94), y_ = (x3_1 ++ [(⟨((rd_T134 l0 x11_1).f0), ((rd_T134 l0 x11_1).f1), x6_2⟩ : S94)]) := ⟨_, rfl⟩
          replace H : (epicyclelaw11_rows.l0 k2 y157 l0 (l0.length : Int) (wrap64 (x11_1 + 1))) = some r := by first | (rw [hy157]; with_reducible exact H) | (have H2_ := (Option.bind_some _ _).symm.trans H; rw [hy157]; with_reducible exact H2_) | (have H2_ := (Option.bind_some _ _).symm.trans H; with_reducible exact H2_) | with_reducible exact H | (rw [hy157]; exact H) | exact H
          have Ny157 := Aside0.mk hy157
          clear hy157
          have H' := Aside0.mk H
          clear H
          have hcz16_0 : wr.cell? ⟨gb151, 0, none⟩ = some (.int .u64 ((rd_T134 l0 x11_1).f0)) := (blk_cell BK151.out 0).trans rfl
          have hcz16_1 : wr.cell? ⟨gb151, 1, none⟩ = some (.int .u64 ((rd_T134 l0 x11_1).f1)) := (blk_cell BK151.out 1).trans rfl
          have hcz16_2 : wr.cell? ⟨gb151, 2, none⟩ = some (.slice A150_2 ((rd_T134 l0 x11_1).f2).length c150_2) := (blk_cell BK151.out 2).trans rfl
          have hfz16_0 := blk_frozen BK151.out 0
          have hfz16_1 := blk_frozen BK151.out 1
          have hfz16_2 := blk_frozen BK151.out 2
          obtain ⟨Ao17, co17, eo17⟩ := Kd.R_slice HO_6.out
          subst eo17
          go_wp2_with (first | ((with_reducible refine gate_builtin (b := .append) (xs := #[.tmp 27, .tmp 34]) rfl ?_); at_builtin; refine Kd.S_append k94 (w0 := w) w.heap.size rfl (.tmp 27) (.tmp 34) 81 94 (.agg #[(.int .u64 0), (.int .u64 0), (.slice none 0 0)]) 40 rfl Tryz.underlying81 info94 rfl (by decide) (by omega) u3 x3_1 (⟨((rd_T134 l0 x11_1).f0), ((rd_T134 l0 x11_1).f1), x6_2⟩ : S94) [.int .u64 ((rd_T134 l0 x11_1).f0), .int .u64 ((rd_T134 l0 x11_1).f1), .slice Ao17 x6_2.length co17] (fun _ => True) (fun k_ => some k_ = (.slice Ao17 x6_2.length co17 : Value).ownBlock) rfl rfl ?aP (fun k_ hk_ => ((Kd.R_mono (ok' := fun k_ => ((fun _ => True)) k_ ∧ some k_ ≠ (u3 : Value).ownBlock) (Kd.R_apart' (HO_6.out) (Kd.S_typed HO_3.out) (by decide)) (fun k_ hk => ⟨trivial, hk.2⟩))).1 k_ hk_.symm) ?aF ?aO ?aB ?aS ?aL ?_; (case aP => exact k94_mkM _ _ _ (⟨((rd_T134 l0 x11_1).f0), ((rd_T134 l0 x11_1).f1), x6_2⟩ : S94) (Kd.R_mono (Kd.R_tight rfl (Kd.R_mono (ok' := fun k_ => ((fun _ => True)) k_ ∧ some k_ ≠ (u3 : Value).ownBlock) (Kd.R_apart' (HO_6.out) (Kd.S_typed HO_3.out) (by decide)) (fun k_ hk => ⟨trivial, hk.2⟩))) (fun _ h_ => h_))); (case aB => exact bel_); (case aF => exact (fun _ _ => trivial)); (case aO => exact (by (with_reducible repeat (first | apply Kd.S_alloc | apply Kd.S_drewN | apply Kd.S_drew)); exact Kd.S_mono HO_3.out (fun k_ hk => ⟨trivial, fun e_ => hk e_⟩))); (case aS => exact (below_size bel_)); (case aL => have := LMc15.out; omega); intro v158 w18 ho hb hg hat; rw [← Ny157.out] at ho; have n0_ := Aside0.mk (blk_grown (g := gb151) (o := .cells #[.int .u64 ((rd_T134 l0 x11_1).f0), .int .u64 ((rd_T134 l0 x11_1).f1), .slice A150_2 ((rd_T134 l0 x11_1).f2).length c150_2] 134 (0, 0)) (by (with_reducible repeat (first | refine blk_drewN ?_ _ | refine blk_drew ?_ | refine blk_alloc ?_ _)); exact BK151.out) hg (Kd.S_ne HO_3.out BK151.out (by decide))); have n1_ := Aside0.mk (hb); have n2_ := Aside0.mk (ho); clear BK151; clear HB; clear HO_3; clear HO_6; have BK151 := n0_; have HB := n1_; have HO159 := n2_; clear n0_ n1_ n2_; clear ho hb hg hat))
          go_roundg k2
          case measure => have := HK1.out; have := HK2.out; omega
          case rel => exact ⟨(y157), (wrap64 (x11_1 + 1)), (by first | rfl | (simp; done) | (simp [*]; done)), H', ⟨by have := HK1.out; have := HK2.out; omega⟩, ⟨by (with_reducible repeat (first | apply Kd.S_alloc | apply Kd.S_drewN | apply Kd.S_drew)); exact HO159.out⟩, ⟨bel_⟩⟩
         ·rw [if_neg c15] at H
          exact absurd H (by simp)
     ·rw [if_neg c4] at H
      exact absurd H (by simp)
    ·rw [if_neg c3] at H
     exact absurd H (by simp)
   ·rw [if_neg c2] at H
    have c2b0 := decide_eq_false c2
    clear c2
    obtain rfl := Option.some.inj H
    go_wp2
    go_ret
    exact ⟨_, by first | rfl | (simp [errW_none, errW_some] <;> rfl) | (simp [*, errW_none, errW_some] <;> rfl), by (with_reducible repeat (first | apply Kd.S_alloc | apply Kd.S_drewN | apply Kd.S_drew)); exact HO_3.out, bel_⟩
noncomputable def epicyclelaw11_made.f (k : Nat) (a0_0 : Int) (a0_1 : Int) (a0_2 : Int) (l0_3 : List (S134)) : Option ((List (Fld)) × Int × Int) := (epicycleref06_Of.f k a0_0 a0_1 a0_2 l0_3).bind fun bt161 => (if a0_0 = 0 then ((field_Small.f k a0_2).bind fun bt164 => (some (bt164.1, bt161.1, bt161.2.1))) else (if a0_0 = 1 then ((field_Known.f k a0_1).bind fun bt168 => (some (bt168.1, bt161.1, bt161.2.1))) else (if (l0_3.length : Int) ≤ 40 then ((epicyclelaw11_rows.f k l0_3).bind fun t172 => ((field_New.f k t172 a0_2).bind fun bt175 => (some (bt175.1, bt161.1, bt161.2.1)))) else (some (([] : List (Fld)), bt161.1, bt161.2.1)))))
def epicyclelaw11_made.T5 : Bool × List (List Nat × List Nat) := (true, [([], []), ([0], [0]), ([1], [1]), ([], []), ([3], [3]), ([2, 4, 2], [2, 4]), ([5], [5]), ([6], [6]), ([6], [6]), ([7, 5, 0, 1, 2, 3, 4, 5, 6, 7], [7])])
def epicyclelaw11_made.B5 : List Nat := [0, 1, 3, 0, 8, 31, 63, 127, 127, 255]
theorem epicyclelaw11_made.tab5 : rtab .any (opsOf Tryz.f17 5) = epicyclelaw11_made.T5 := by kernel_rfl
theorem epicyclelaw11_made.bits5 : waitsOk epicyclelaw11_made.T5.2 epicyclelaw11_made.B5 = true := by kernel_rfl
set_option maxHeartbeats 8000000 in
set_option maxRecDepth 100000 in
theorem epicyclelaw11_made.calls (k : Nat) (a0_0 : Int) (a0_1 : Int) (a0_2 : Int) (A0_3 : Option Addr) (c0_3 : Nat) (l0_3 : List (S134)) (r1 : List (Fld)) (r2 : Int) (r3 : Int) (w : World) (hr0_3 : Kd.C k134 w A0_3 l0_3.length l0_3) (hc0_3 : l0_3.length ≤ c0_3) (h : epicyclelaw11_made.f k a0_0 a0_1 a0_2 l0_3 = some (r1, r2, r3)) :
  Calls Tryz.prog 17 #[.agg #[.int .i64 a0_0, .int .i64 a0_1, .int .u64 a0_2, .slice A0_3 l0_3.length c0_3]] w fun e w' => ∃ v0_ : Value, e = .returned (.tuple #[toPtr v0_, .int .u64 r2, .int .u64 r3]) ∧ Kd.R kFld 97 w' w.heap.size (fun _ => True) v0_ r1 ∧ Below w.heap.size w w' := by
 have hu25 := Tryz.underlying25
 have HR0_3 := Aside0.mk hr0_3
 have HC0_3 := Aside0.mk hc0_3
 clear hr0_3 hc0_3
 have HB := Aside0.mk (Below.refl w.heap.size w)
 have H := h; unfold epicyclelaw11_made.f at H
 clear h
 replace H := Option.bind_eq_some_iff.mp H
 obtain ⟨⟨t161, t162, t163⟩, A20, H⟩ := H
 (try dsimp only at H)
 have A2 := Aside0.mk A20
 clear A20
 by_cases c3 : a0_0 = 0
 ·rw [if_pos c3] at H
  have c3b0 := beq_iff_eq.mpr c3
  have c3b1 := bne_eq_false_iff_eq.mpr c3
  clear c3
  replace H := Option.bind_eq_some_iff.mp H
  obtain ⟨⟨t164, t165⟩, A40, H⟩ := H
  (try dsimp only at H)
  have A4 := Aside0.mk A40
  clear A40
  simp only [Option.some.injEq, Prod.mk.injEq] at H
  obtain ⟨rfl, rfl, rfl⟩ := H
  go_enter Tryz.func17, Tryz.ntmps17
  go_wp2_with (first | ((with_reducible refine gate_dst (N := 1) rfl ?_); refine box_event ?hg (N := 1) ?hd (cs := #[.int .i64 a0_0, .int .i64 a0_1, .int .u64 a0_2, .slice A0_3 l0_3.length c0_3]) (t := 25) ?hr ?_; (case hd => rfl); (case hg => rfl); (case hr => first | (go_simp; done) | (go_simp; rfl)); intro gb160 hg w5 hbox hb; have n0_ := Aside0.mk (below_step bel_ hb); have n1_ := Aside0.mk (hbox); have n2_ := Aside0.mk ((by rw [hg]; exact (below_size bel_) : w.heap.size ≤ gb160)); have n3_ := Aside0.mk ((by rw [hg]; exact (below_size bel_) : w.heap.size ≤ gb160)); clear HB; have HB := n0_; have BK160 := n1_; have GW160 := n2_; have GE160 := n3_; clear n0_ n1_ n2_ n3_; clear hb hbox hg; have hcz6_0 : w5.cell? ⟨gb160, 0, none⟩ = some (.int .i64 a0_0) := (blk_cell BK160.out 0).trans rfl; have hcz6_1 : w5.cell? ⟨gb160, 1, none⟩ = some (.int .i64 a0_1) := (blk_cell BK160.out 1).trans rfl; have hcz6_2 : w5.cell? ⟨gb160, 2, none⟩ = some (.int .u64 a0_2) := (blk_cell BK160.out 2).trans rfl; have hcz6_3 : w5.cell? ⟨gb160, 3, none⟩ = some (.slice A0_3 l0_3.length c0_3) := (blk_cell BK160.out 3).trans rfl; have hfz6_0 := blk_frozen BK160.out 0; have hfz6_1 := blk_frozen BK160.out 1; have hfz6_2 := blk_frozen BK160.out 2; have hfz6_3 := blk_frozen BK160.out 3) | ((with_reducible refine gate_callee (f := 49) rfl ?_); refine goesL_ (some 11) rfl rfl Tryz.func49 (by kernel_rfl) rfl #[.agg #[.int .i64 a0_0, .int .i64 a0_1, .int .u64 a0_2, .slice A0_3 l0_3.length c0_3]] rfl (by (try simp only [List.map_toArray, List.map_cons, List.map_nil]); first | done | rfl | (simp only [List.length_drop, List.length_take]; rfl)) ?_; (with_reducible refine (epicycleref06_Of.calls k a0_0 a0_1 a0_2 _ _ l0_3 t161 t162 t163 _ ?side1 ?side2 A2.out).mono ?_); (case side1 => repeat (first | exact (Kd.C_below HR0_3.out HB.out) | (with_reducible refine Kd.C_alloc ?_ _) | (with_reducible refine Kd.C_drewN ?_ _) | (with_reducible refine Kd.C_drew ?_))); (case side2 => exact HC0_3.out); rintro e w7 ⟨rfl, hb⟩; refine ⟨_, rfl, ?_⟩; have n0_ := Aside0.mk (blk_below (g := gb160) (o := .cells #[.int .i64 a0_0, .int .i64 a0_1, .int .u64 a0_2, .slice A0_3 l0_3.length c0_3] 25 (0, 0)) (by (with_reducible repeat (first | refine blk_drewN ?_ _ | refine blk_drew ?_ | refine blk_alloc ?_ _)); exact BK160.out) hb); have n1_ := Aside0.mk (below_step bel_ hb); clear BK160; clear HB; have BK160 := n0_; have HB := n1_; clear n0_ n1_; (try clear hb); (try clear hb2); (try clear hk); (try clear hi); have hcz8_0 : w7.cell? ⟨gb160, 0, none⟩ = some (.int .i64 a0_0) := (blk_cell BK160.out 0).trans rfl; have hcz8_1 : w7.cell? ⟨gb160, 1, none⟩ = some (.int .i64 a0_1) := (blk_cell BK160.out 1).trans rfl; have hcz8_2 : w7.cell? ⟨gb160, 2, none⟩ = some (.int .u64 a0_2) := (blk_cell BK160.out 2).trans rfl; have hcz8_3 : w7.cell? ⟨gb160, 3, none⟩ = some (.slice A0_3 l0_3.length c0_3) := (blk_cell BK160.out 3).trans rfl; have hfz8_0 := blk_frozen BK160.out 0; have hfz8_1 := blk_frozen BK160.out 1; have hfz8_2 := blk_frozen BK160.out 2; have hfz8_3 := blk_frozen BK160.out 3) | ((with_reducible refine gate_callee (f := 48) rfl ?_); refine goesL_ (some 35) rfl rfl Tryz.func48 (by kernel_rfl) rfl #[.int .u64 a0_2] rfl (by (try simp only [List.map_toArray, List.map_cons, List.map_nil]); first | done | rfl | (simp only [List.length_drop, List.length_take]; rfl)) ?_; (with_reducible refine (field_Small.calls k a0_2 t164 t165 _ A4.out).mono ?_); rintro e w9 ⟨v166, rfl, ho0, hb⟩; refine ⟨_, rfl, ?_⟩; have n0_ := Aside0.mk (Kd.R_lower ho0 (below_size bel_)); have n1_ := Aside0.mk (blk_below (g := gb160) (o := .cells #[.int .i64 a0_0, .int .i64 a0_1, .int .u64 a0_2, .slice A0_3 l0_3.length c0_3] 25 (0, 0)) (by (with_reducible repeat (first | refine blk_drewN ?_ _ | refine blk_drew ?_ | refine blk_alloc ?_ _)); exact BK160.out) hb); have n2_ := Aside0.mk (below_step bel_ hb); clear BK160; clear HB; have HO167 := n0_; have BK160 := n1_; have HB := n2_; clear n0_ n1_ n2_; (try clear hb); (try clear hb2); (try clear hk); (try clear hi); (try clear ho0)))
  go_ret3
  exact ⟨_, by first | rfl | (simp [errW_none, errW_some] <;> rfl) | (simp [*, errW_none, errW_some] <;> rfl), by (with_reducible repeat (first | apply Kd.R_alloc | apply Kd.R_drewN | apply Kd.R_drew)); exact HO167.out, bel_⟩
 ·rw [if_neg c3] at H
  have c3b0 := beq_eq_false_iff_ne.mpr c3
  have c3b1 := bne_iff_ne.mpr c3
  by_cases c10 : a0_0 = 1
  ·rw [if_pos c10] at H
   have c10b0 := beq_iff_eq.mpr c10
   have c10b1 := bne_eq_false_iff_eq.mpr c10
   clear c10
   replace H := Option.bind_eq_some_iff.mp H
   obtain ⟨⟨t168, t169⟩, A110, H⟩ := H
   (try dsimp only at H)
   have A11 := Aside0.mk A110
   clear A110
   simp only [Option.some.injEq, Prod.mk.injEq] at H
   obtain ⟨rfl, rfl, rfl⟩ := H
   go_enter Tryz.func17, Tryz.ntmps17
   go_wp2_with (first | ((with_reducible refine gate_dst (N := 1) rfl ?_); refine box_event ?hg (N := 1) ?hd (cs := #[.int .i64 a0_0, .int .i64 a0_1, .int .u64 a0_2, .slice A0_3 l0_3.length c0_3]) (t := 25) ?hr ?_; (case hd => rfl); (case hg => rfl); (case hr => first | (go_simp; done) | (go_simp; rfl)); intro gb160 hg w12 hbox hb; have n0_ := Aside0.mk (below_step bel_ hb); have n1_ := Aside0.mk (hbox); have n2_ := Aside0.mk ((by rw [hg]; exact (below_size bel_) : w.heap.size ≤ gb160)); have n3_ := Aside0.mk ((by rw [hg]; exact (below_size bel_) : w.heap.size ≤ gb160)); clear HB; have HB := n0_; have BK160 := n1_; have GW160 := n2_; have GE160 := n3_; clear n0_ n1_ n2_ n3_; clear hb hbox hg; have hcz13_0 : w12.cell? ⟨gb160, 0, none⟩ = some (.int .i64 a0_0) := (blk_cell BK160.out 0).trans rfl; have hcz13_1 : w12.cell? ⟨gb160, 1, none⟩ = some (.int .i64 a0_1) := (blk_cell BK160.out 1).trans rfl; have hcz13_2 : w12.cell? ⟨gb160, 2, none⟩ = some (.int .u64 a0_2) := (blk_cell BK160.out 2).trans rfl; have hcz13_3 : w12.cell? ⟨gb160, 3, none⟩ = some (.slice A0_3 l0_3.length c0_3) := (blk_cell BK160.out 3).trans rfl; have hfz13_0 := blk_frozen BK160.out 0; have hfz13_1 := blk_frozen BK160.out 1; have hfz13_2 := blk_frozen BK160.out 2; have hfz13_3 := blk_frozen BK160.out 3) | ((with_reducible refine gate_callee (f := 49) rfl ?_); refine goesL_ (some 11) rfl rfl Tryz.func49 (by kernel_rfl) rfl #[.agg #[.int .i64 a0_0, .int .i64 a0_1, .int .u64 a0_2, .slice A0_3 l0_3.length c0_3]] rfl (by (try simp only [List.map_toArray, List.map_cons, List.map_nil]); first | done | rfl | (simp only [List.length_drop, List.length_take]; rfl)) ?_; (with_reducible refine (epicycleref06_Of.calls k a0_0 a0_1 a0_2 _ _ l0_3 t161 t162 t163 _ ?side1 ?side2 A2.out).mono ?_); (case side1 => repeat (first | exact (Kd.C_below HR0_3.out HB.out) | (with_reducible refine Kd.C_alloc ?_ _) | (with_reducible refine Kd.C_drewN ?_ _) | (with_reducible refine Kd.C_drew ?_))); (case side2 => exact HC0_3.out); rintro e w14 ⟨rfl, hb⟩; refine ⟨_, rfl, ?_⟩; have n0_ := Aside0.mk (blk_below (g := gb160) (o := .cells #[.int .i64 a0_0, .int .i64 a0_1, .int .u64 a0_2, .slice A0_3 l0_3.length c0_3] 25 (0, 0)) (by (with_reducible repeat (first | refine blk_drewN ?_ _ | refine blk_drew ?_ | refine blk_alloc ?_ _)); exact BK160.out) hb); have n1_ := Aside0.mk (below_step bel_ hb); clear BK160; clear HB; have BK160 := n0_; have HB := n1_; clear n0_ n1_; (try clear hb); (try clear hb2); (try clear hk); (try clear hi); have hcz15_0 : w14.cell? ⟨gb160, 0, none⟩ = some (.int .i64 a0_0) := (blk_cell BK160.out 0).trans rfl; have hcz15_1 : w14.cell? ⟨gb160, 1, none⟩ = some (.int .i64 a0_1) := (blk_cell BK160.out 1).trans rfl; have hcz15_2 : w14.cell? ⟨gb160, 2, none⟩ = some (.int .u64 a0_2) := (blk_cell BK160.out 2).trans rfl; have hcz15_3 : w14.cell? ⟨gb160, 3, none⟩ = some (.slice A0_3 l0_3.length c0_3) := (blk_cell BK160.out 3).trans rfl; have hfz15_0 := blk_frozen BK160.out 0; have hfz15_1 := blk_frozen BK160.out 1; have hfz15_2 := blk_frozen BK160.out 2; have hfz15_3 := blk_frozen BK160.out 3) | ((with_reducible refine gate_callee (f := 50) rfl ?_); refine goesL_ (some 43) rfl rfl Tryz.func50 (by kernel_rfl) rfl #[.int .i64 a0_1] rfl (by (try simp only [List.map_toArray, List.map_cons, List.map_nil]); first | done | rfl | (simp only [List.length_drop, List.length_take]; rfl)) ?_; (with_reducible refine (field_Known.calls k a0_1 t168 t169 _ A11.out).mono ?_); rintro e w16 ⟨v170, rfl, ho0, hb⟩; refine ⟨_, rfl, ?_⟩; have n0_ := Aside0.mk (Kd.R_lower ho0 (below_size bel_)); have n1_ := Aside0.mk (blk_below (g := gb160) (o := .cells #[.int .i64 a0_0, .int .i64 a0_1, .int .u64 a0_2, .slice A0_3 l0_3.length c0_3] 25 (0, 0)) (by (with_reducible repeat (first | refine blk_drewN ?_ _ | refine blk_drew ?_ | refine blk_alloc ?_ _)); exact BK160.out) hb); have n2_ := Aside0.mk (below_step bel_ hb); clear BK160; clear HB; have HO171 := n0_; have BK160 := n1_; have HB := n2_; clear n0_ n1_ n2_; (try clear hb); (try clear hb2); (try clear hk); (try clear hi); (try clear ho0)))
   go_ret3
   exact ⟨_, by first | rfl | (simp [errW_none, errW_some] <;> rfl) | (simp [*, errW_none, errW_some] <;> rfl), by (with_reducible repeat (first | apply Kd.R_alloc | apply Kd.R_drewN | apply Kd.R_drew)); exact HO171.out, bel_⟩
  ·rw [if_neg c10] at H
   have c10b0 := beq_eq_false_iff_ne.mpr c10
   have c10b1 := bne_iff_ne.mpr c10
   by_cases c17 : (l0_3.length : Int) ≤ 40
   ·rw [if_pos c17] at H
    have c17b0 := decide_eq_true c17
    have c17b1 : decide (l0_3.length ≤ 40) = true := decide_eq_true (by omega)
    clear c17
    replace H := Option.bind_eq_some_iff.mp H
    obtain ⟨t172, A180, H⟩ := H
    (try dsimp only at H)
    have A18 := Aside0.mk A180
    clear A180
    replace H := Option.bind_eq_some_iff.mp H
    obtain ⟨⟨t175, t176⟩, A190, H⟩ := H
    (try dsimp only at H)
    have A19 := Aside0.mk A190
    clear A190
    simp only [Option.some.injEq, Prod.mk.injEq] at H
    obtain ⟨rfl, rfl, rfl⟩ := H
    go_enter Tryz.func17, Tryz.ntmps17
    try go_wp2_with (first | ((with_reducible refine gate_dst (N := 1) rfl ?_); refine box_event ?hg (N := 1) ?hd (cs := #[.int .i64 a0_0, .int .i64 a0_1, .int .u64 a0_2, .slice A0_3 l0_3.length c0_3]) (t := 25) ?hr ?_; (case hd => rfl); (case hg => rfl); (case hr => first | (go_simp; done) | (go_simp; rfl)); intro gb160 hg w20 hbox hb; have n0_ := Aside0.mk (below_step bel_ hb); have n1_ := Aside0.mk (hbox); have n2_ := Aside0.mk ((by rw [hg]; exact (below_size bel_) : w.heap.size ≤ gb160)); have n3_ := Aside0.mk ((by rw [hg]; exact (below_size bel_) : w.heap.size ≤ gb160)); clear HB; have HB := n0_; have BK160 := n1_; have GW160 := n2_; have GE160 := n3_; clear n0_ n1_ n2_ n3_; clear hb hbox hg; have hcz21_0 : w20.cell? ⟨gb160, 0, none⟩ = some (.int .i64 a0_0) := (blk_cell BK160.out 0).trans rfl; have hcz21_1 : w20.cell? ⟨gb160, 1, none⟩ = some (.int .i64 a0_1) := (blk_cell BK160.out 1).trans rfl; have hcz21_2 : w20.cell? ⟨gb160, 2, none⟩ = some (.int .u64 a0_2) := (blk_cell BK160.out 2).trans rfl; have hcz21_3 : w20.cell? ⟨gb160, 3, none⟩ = some (.slice A0_3 l0_3.length c0_3) := (blk_cell BK160.out 3).trans rfl; have hfz21_0 := blk_frozen BK160.out 0; have hfz21_1 := blk_frozen BK160.out 1; have hfz21_2 := blk_frozen BK160.out 2; have hfz21_3 := blk_frozen BK160.out 3) | ((with_reducible refine gate_callee (f := 49) rfl ?_); refine goesL_ (some 11) rfl rfl Tryz.func49 (by kernel_rfl) rfl #[.agg #[.int .i64 a0_0, .int .i64 a0_1, .int .u64 a0_2, .slice A0_3 l0_3.length c0_3]] rfl (by (try simp only [List.map_toArray, List.map_cons, List.map_nil]); first | done | rfl | (simp only [List.length_drop, List.length_take]; rfl)) ?_; (with_reducible refine (epicycleref06_Of.calls k a0_0 a0_1 a0_2 _ _ l0_3 t161 t162 t163 _ ?side1 ?side2 A2.out).mono ?_); (case side1 => repeat (first | exact (Kd.C_below HR0_3.out HB.out) | (with_reducible refine Kd.C_alloc ?_ _) | (with_reducible refine Kd.C_drewN ?_ _) | (with_reducible refine Kd.C_drew ?_))); (case side2 => exact HC0_3.out); rintro e w22 ⟨rfl, hb⟩; refine ⟨_, rfl, ?_⟩; have n0_ := Aside0.mk (blk_below (g := gb160) (o := .cells #[.int .i64 a0_0, .int .i64 a0_1, .int .u64 a0_2, .slice A0_3 l0_3.length c0_3] 25 (0, 0)) (by (with_reducible repeat (first | refine blk_drewN ?_ _ | refine blk_drew ?_ | refine blk_alloc ?_ _)); exact BK160.out) hb); have n1_ := Aside0.mk (below_step bel_ hb); clear BK160; clear HB; have BK160 := n0_; have HB := n1_; clear n0_ n1_; (try clear hb); (try clear hb2); (try clear hk); (try clear hi); have hcz23_0 : w22.cell? ⟨gb160, 0, none⟩ = some (.int .i64 a0_0) := (blk_cell BK160.out 0).trans rfl; have hcz23_1 : w22.cell? ⟨gb160, 1, none⟩ = some (.int .i64 a0_1) := (blk_cell BK160.out 1).trans rfl; have hcz23_2 : w22.cell? ⟨gb160, 2, none⟩ = some (.int .u64 a0_2) := (blk_cell BK160.out 2).trans rfl; have hcz23_3 : w22.cell? ⟨gb160, 3, none⟩ = some (.slice A0_3 l0_3.length c0_3) := (blk_cell BK160.out 3).trans rfl; have hfz23_0 := blk_frozen BK160.out 0; have hfz23_1 := blk_frozen BK160.out 1; have hfz23_2 := blk_frozen BK160.out 2; have hfz23_3 := blk_frozen BK160.out 3))
    have n0_ := Aside0.mk (blk_drew BK160.out)
    have n1_ := Aside0.mk (below_drew1 HB.out)
    clear BK160
    clear HB
    have BK160 := n0_
    have HB := n1_
    clear n0_ n1_
    refine start_ (n := 10) (S := fun w' => w'.cell? ⟨gb160, 0, none⟩ = some (.int .i64 a0_0) ∧ w'.cell? ⟨gb160, 1, none⟩ = some (.int .i64 a0_1) ∧ w'.cell? ⟨gb160, 2, none⟩ = some (.int .u64 a0_2) ∧ w'.cell? ⟨gb160, 3, none⟩ = some (.slice A0_3 l0_3.length c0_3)) (ds := []) #[false, false, false, false, false, false, false, false, false, false] (by kernel_rfl) rfl rfl ⟨(blk_cell BK160.out 0).trans rfl, (blk_cell BK160.out 1).trans rfl, (blk_cell BK160.out 2).trans rfl, (blk_cell BK160.out 3).trans rfl⟩ (fun hHeld => ?_); refine with_tabW epicyclelaw11_made.tab5 epicyclelaw11_made.bits5 (fun HT_ HW_ => ?_)
    generalize w22.drew = w24 at BK160 HB hHeld ⊢
    refine pS_ 0 22 (any_of HT_.out (by kernel_rfl)) rfl rfl ?_
    refine pS_ 3 25 (any_of HT_.out (by kernel_rfl)) rfl rfl ?_
    refine tS_ 1 23 (take_ofW HT_.out HW_.out (by kernel_rfl)) hHeld (by rintro w' ⟨s0, s1, s2, s3⟩; go_simp; with_reducible rfl) rfl rfl ?_
    refine tS_ 4 26 (take_ofW HT_.out HW_.out (by kernel_rfl)) hHeld (by rintro w' ⟨s0, s1, s2, s3⟩; go_simp; with_reducible rfl) rfl rfl ?_
    refine one_ (i := 2) (N := some 24) #[true, true, true, true, true, false, false, false, false, false] rfl rfl (one_of HT_.out (by kernel_rfl)) (by decide) (fun K hK => ?_)
    refine goes_ Tryz.func52 (by kernel_rfl) rfl #[.slice A0_3 l0_3.length c0_3] (by rfl) rfl rfl (by (try simp only [List.map_toArray, List.map_cons, List.map_nil]); first | done | rfl | (simp only [List.length_drop, List.length_take]; rfl)) ?_
    with_reducible refine (epicyclelaw11_rows.calls k _ _ l0_3 t172 _ ?side1 ?side2 A18.out).mono ?_
    (case side1 => repeat (first | exact (Kd.C_below HR0_3.out HB.out) | (with_reducible refine Kd.C_alloc ?_ _) | (with_reducible refine Kd.C_drewN ?_ _) | (with_reducible refine Kd.C_drew ?_)))
    (case side2 => exact HC0_3.out)
    rintro e w25 ⟨v173, rfl, ho0, hb⟩
    refine ⟨_, rfl, ?_⟩
    have n0_ := Aside0.mk (Kd.S_lower ho0 (below_size bel_))
    have n1_ := Aside0.mk (blk_below (g := gb160) (o := .cells #[.int .i64 a0_0, .int .i64 a0_1, .int .u64 a0_2, .slice A0_3 l0_3.length c0_3] 25 (0, 0)) (by (with_reducible repeat (first | refine blk_drewN ?_ _ | refine blk_drew ?_ | refine blk_alloc ?_ _)); exact BK160.out) hb)
    have n2_ := Aside0.mk (below_step bel_ hb)
    clear BK160
    clear HB
    have HO174 := n0_
    have BK160 := n1_
    have HB := n2_
    clear n0_ n1_ n2_
    (try clear hb)
    (try clear hb2)
    (try clear hk)
    (try clear hi)
    (try clear ho0)
    obtain ⟨Ao26, co26, eo26⟩ := Kd.S_slice HO174.out
    (first | subst eo26 | (injection eo26 with f1_ f2_ f3_; have f4_ := f1_.symm; have f5_ := f3_.symm; clear f1_ f2_ f3_; subst f4_; subst f5_))
    refine hK.out _ _ ⟨(blk_cell BK160.out 0).trans rfl, (blk_cell BK160.out 1).trans rfl, (blk_cell BK160.out 2).trans rfl, (blk_cell BK160.out 3).trans rfl⟩ (fun hHeld => ?_)
    clear hK K
    refine nS_ ?_
    refine one_ (i := 5) (N := some 27) #[true, true, true, true, true, true, false, false, false, false] rfl rfl (one_of HT_.out (by kernel_rfl)) (by decide) (fun K hK => ?_)
    refine goes_ Tryz.func51 (by kernel_rfl) rfl #[.slice Ao26 t172.length co26, .int .u64 a0_2] (by rfl) rfl rfl (by (try simp only [List.map_toArray, List.map_cons, List.map_nil]); first | done | rfl | (simp only [List.length_drop, List.length_take]; rfl)) ?_
    with_reducible refine (field_New.calls k _ _ t172 a0_2 t175 t176 _ ?side1 ?side2 A19.out).mono ?_
    (case side1 => repeat (first | exact (Kd.S_reads' HO174.out).2.2 | (with_reducible refine Kd.C_alloc ?_ _) | (with_reducible refine Kd.C_drewN ?_ _) | (with_reducible refine Kd.C_drew ?_)))
    (case side2 => exact (Kd.S_reads' HO174.out).2.1)
    rintro e w27 ⟨v177, rfl, ho0, hb⟩
    refine ⟨_, rfl, ?_⟩
    have n0_ := Aside0.mk (Kd.S_below (by (with_reducible repeat (first | apply Kd.S_alloc | apply Kd.S_drewN | apply Kd.S_drew)); exact HO174.out) hb)
    have n1_ := Aside0.mk (Kd.R_lower ho0 (below_size bel_))
    have n2_ := Aside0.mk (blk_below (g := gb160) (o := .cells #[.int .i64 a0_0, .int .i64 a0_1, .int .u64 a0_2, .slice A0_3 l0_3.length c0_3] 25 (0, 0)) (by (with_reducible repeat (first | refine blk_drewN ?_ _ | refine blk_drew ?_ | refine blk_alloc ?_ _)); exact BK160.out) hb)
    have n3_ := Aside0.mk (below_step bel_ hb)
    clear HO174
    clear BK160
    clear HB
    have HO174 := n0_
    have HO178 := n1_
    have BK160 := n2_
    have HB := n3_
    clear n0_ n1_ n2_ n3_
    (try clear hb)
    (try clear hb2)
    (try clear hk)
    (try clear hi)
    (try clear ho0)
    refine hK.out _ _ ⟨(blk_cell BK160.out 0).trans rfl, (blk_cell BK160.out 1).trans rfl, (blk_cell BK160.out 2).trans rfl, (blk_cell BK160.out 3).trans rfl⟩ (fun hHeld => ?_)
    clear hK K
    refine nS_ ?_
    refine pS_ 6 21 (any_of HT_.out (by kernel_rfl)) rfl rfl ?_
    refine pS_ 7 28 (any_of HT_.out (by kernel_rfl)) rfl rfl ?_
    refine pS_ 8 29 (any_of HT_.out (by kernel_rfl)) rfl rfl ?_
    refine pS_ 9 8 (any_of HT_.out (by kernel_rfl)) rfl rfl ?_
    refine done_ (done_of HT_.out (by kernel_rfl)) ?_
    try go_wp2
    go_ret3
    exact ⟨_, by first | rfl | (simp [errW_none, errW_some] <;> rfl) | (simp [*, errW_none, errW_some] <;> rfl), by (with_reducible repeat (first | apply Kd.R_alloc | apply Kd.R_drewN | apply Kd.R_drew)); exact HO178.out, bel_⟩
   ·rw [if_neg c17] at H
    have c17b0 := decide_eq_false c17
    have c17b1 : decide (l0_3.length ≤ 40) = false := decide_eq_false (by omega)
    clear c17
    simp only [Option.some.injEq, Prod.mk.injEq] at H
    obtain ⟨rfl, rfl, rfl⟩ := H
    go_enter Tryz.func17, Tryz.ntmps17
    go_wp2_with (first | ((with_reducible refine gate_dst (N := 1) rfl ?_); refine box_event ?hg (N := 1) ?hd (cs := #[.int .i64 a0_0, .int .i64 a0_1, .int .u64 a0_2, .slice A0_3 l0_3.length c0_3]) (t := 25) ?hr ?_; (case hd => rfl); (case hg => rfl); (case hr => first | (go_simp; done) | (go_simp; rfl)); intro gb160 hg w28 hbox hb; have n0_ := Aside0.mk (below_step bel_ hb); have n1_ := Aside0.mk (hbox); have n2_ := Aside0.mk ((by rw [hg]; exact (below_size bel_) : w.heap.size ≤ gb160)); have n3_ := Aside0.mk ((by rw [hg]; exact (below_size bel_) : w.heap.size ≤ gb160)); clear HB; have HB := n0_; have BK160 := n1_; have GW160 := n2_; have GE160 := n3_; clear n0_ n1_ n2_ n3_; clear hb hbox hg; have hcz29_0 : w28.cell? ⟨gb160, 0, none⟩ = some (.int .i64 a0_0) := (blk_cell BK160.out 0).trans rfl; have hcz29_1 : w28.cell? ⟨gb160, 1, none⟩ = some (.int .i64 a0_1) := (blk_cell BK160.out 1).trans rfl; have hcz29_2 : w28.cell? ⟨gb160, 2, none⟩ = some (.int .u64 a0_2) := (blk_cell BK160.out 2).trans rfl; have hcz29_3 : w28.cell? ⟨gb160, 3, none⟩ = some (.slice A0_3 l0_3.length c0_3) := (blk_cell BK160.out 3).trans rfl; have hfz29_0 := blk_frozen BK160.out 0; have hfz29_1 := blk_frozen BK160.out 1; have hfz29_2 := blk_frozen BK160.out 2; have hfz29_3 := blk_frozen BK160.out 3) | ((with_reducible refine gate_callee (f := 49) rfl ?_); refine goesL_ (some 11) rfl rfl Tryz.func49 (by kernel_rfl) rfl #[.agg #[.int .i64 a0_0, .int .i64 a0_1, .int .u64 a0_2, .slice A0_3 l0_3.length c0_3]] rfl (by (try simp only [List.map_toArray, List.map_cons, List.map_nil]); first | done | rfl | (simp only [List.length_drop, List.length_take]; rfl)) ?_; (with_reducible refine (epicycleref06_Of.calls k a0_0 a0_1 a0_2 _ _ l0_3 t161 t162 t163 _ ?side1 ?side2 A2.out).mono ?_); (case side1 => repeat (first | exact (Kd.C_below HR0_3.out HB.out) | (with_reducible refine Kd.C_alloc ?_ _) | (with_reducible refine Kd.C_drewN ?_ _) | (with_reducible refine Kd.C_drew ?_))); (case side2 => exact HC0_3.out); rintro e w30 ⟨rfl, hb⟩; refine ⟨_, rfl, ?_⟩; have n0_ := Aside0.mk (blk_below (g := gb160) (o := .cells #[.int .i64 a0_0, .int .i64 a0_1, .int .u64 a0_2, .slice A0_3 l0_3.length c0_3] 25 (0, 0)) (by (with_reducible repeat (first | refine blk_drewN ?_ _ | refine blk_drew ?_ | refine blk_alloc ?_ _)); exact BK160.out) hb); have n1_ := Aside0.mk (below_step bel_ hb); clear BK160; clear HB; have BK160 := n0_; have HB := n1_; clear n0_ n1_; (try clear hb); (try clear hb2); (try clear hk); (try clear hi); have hcz31_0 : w30.cell? ⟨gb160, 0, none⟩ = some (.int .i64 a0_0) := (blk_cell BK160.out 0).trans rfl; have hcz31_1 : w30.cell? ⟨gb160, 1, none⟩ = some (.int .i64 a0_1) := (blk_cell BK160.out 1).trans rfl; have hcz31_2 : w30.cell? ⟨gb160, 2, none⟩ = some (.int .u64 a0_2) := (blk_cell BK160.out 2).trans rfl; have hcz31_3 : w30.cell? ⟨gb160, 3, none⟩ = some (.slice A0_3 l0_3.length c0_3) := (blk_cell BK160.out 3).trans rfl; have hfz31_0 := blk_frozen BK160.out 0; have hfz31_1 := blk_frozen BK160.out 1; have hfz31_2 := blk_frozen BK160.out 2; have hfz31_3 := blk_frozen BK160.out 3))
    go_ret3
    exact ⟨(.slice none 0 0), by first | rfl | (simp [errW_none, errW_some] <;> rfl) | (simp [*, errW_none, errW_some] <;> rfl), by first | exact Kd.R_nil _ _ _ _ _ | exact Kd.N_nil _ _ _ _ _ | exact Kd.V_nil _ _ _ _ _ | exact Kd.Q_nil _ _ _ _ _ | exact Kd.S_nil _ _ _ _ _, bel_⟩
noncomputable def epicycleref11_Check.f (a0 : Int) (a1 : Int) (a2 : Int) : Option (Int) := if a1 < 1 then (some 1) else (if a1 > a2 then (some 13) else (if (IntKind.u64.wrap (a1)) = 0 then (none) else (if (Int.tmod (IntKind.u64.wrap (a0 - 1)) (IntKind.u64.wrap (a1))) = 0 then (some 0) else (some 4))))
set_option maxHeartbeats 8000000 in
set_option maxRecDepth 100000 in
theorem epicycleref11_Check.calls (a0 : Int) (a1 : Int) (a2 : Int) (r : Int) (w : World) (h : epicycleref11_Check.f a0 a1 a2 = some r) :
  Calls Tryz.prog 20 #[.int .u64 a0, .int .i64 a1, .int .i64 a2] w fun e w' => e = .returned (.int .i64 r) ∧ Drawn0 w w' := by
 have H := h; unfold epicycleref11_Check.f at H
 clear h
 by_cases c4 : a1 < 1
 ·rw [if_pos c4] at H
  have c4b0 := decide_eq_true c4
  clear c4
  obtain rfl := Option.some.inj H
  go_enter Tryz.func20, Tryz.ntmps20
  go_wp2
  go_ret
  exact ⟨by first | rfl | (simp; done) | (simp [*]; done), by repeat (first | exact Drawn0.refl _ | apply Drawn0.step)⟩
 ·rw [if_neg c4] at H
  have c4b0 := decide_eq_false c4
  clear c4
  by_cases c5 : a1 > a2
  ·rw [if_pos c5] at H
   have c5b0 := decide_eq_true c5
   clear c5
   obtain rfl := Option.some.inj H
   go_enter Tryz.func20, Tryz.ntmps20
   go_wp2
   go_ret
   exact ⟨by first | rfl | (simp; done) | (simp [*]; done), by repeat (first | exact Drawn0.refl _ | apply Drawn0.step)⟩
  ·rw [if_neg c5] at H
   have c5b0 := decide_eq_false c5
   clear c5
   by_cases c6 : (IntKind.u64.wrap (a1)) = 0
   ·rw [if_pos c6] at H
    exact absurd H (by simp)
   ·rw [if_neg c6] at H
    have c6b0 := beq_eq_false_iff_ne.mpr c6
    have c6b1 := bne_iff_ne.mpr c6
    by_cases c7 : (Int.tmod (IntKind.u64.wrap (a0 - 1)) (IntKind.u64.wrap (a1))) = 0
    ·rw [if_pos c7] at H
     have c7b0 := beq_iff_eq.mpr c7
     have c7b1 := bne_eq_false_iff_eq.mpr c7
     clear c7
     obtain rfl := Option.some.inj H
     go_enter Tryz.func20, Tryz.ntmps20
     go_wp2
     go_ret
     exact ⟨by first | rfl | (simp; done) | (simp [*]; done), by repeat (first | exact Drawn0.refl _ | apply Drawn0.step)⟩
    ·rw [if_neg c7] at H
     have c7b0 := beq_eq_false_iff_ne.mpr c7
     have c7b1 := bne_iff_ne.mpr c7
     obtain rfl := Option.some.inj H
     go_enter Tryz.func20, Tryz.ntmps20
     go_wp2
     go_ret
     exact ⟨by first | rfl | (simp; done) | (simp [*]; done), by repeat (first | exact Drawn0.refl _ | apply Drawn0.step)⟩
noncomputable def epicycleref11_Good.l0 : Nat → Int → List Int → Int → Int → Option (Bool)
 | 0, _, _, _, _ => none
 | k + 1, x0, x7, x8, x9 => if x9 < x8 then (if 0 ≤ x9 then (if x9 < (x7.length : Int) then (if (rd x7 x9) ≥ x0 then (some false) else (epicycleref11_Good.l0 k x0 x7 x8 (wrap64 (x9 + 1)))) else (none)) else (none)) else (some true)
noncomputable def epicycleref11_Good.f (k : Nat) (a0 : Int) (l1 : List Int) : Option (Bool) := epicycleref11_Good.l0 k a0 l1 (l1.length : Int) 0
set_option maxHeartbeats 8000000 in
set_option maxRecDepth 100000 in
theorem epicycleref11_Good.calls (k : Nat) (a0 : Int) (A1 : Option Addr) (c1 : Nat) (l1 : List Int) (r : Bool) (w : World) (hr1 : Kd.C (Kd.int .u64) w A1 l1.length l1) (hc1 : l1.length ≤ c1) (h : epicycleref11_Good.f k a0 l1 = some r) :
  Calls Tryz.prog 21 #[.int .u64 a0, .slice A1 l1.length c1] w fun e w' => e = .returned (.bool r) ∧ Drawn0 w w' := by
 have HR1 := Aside0.mk hr1
 have HC1 := Aside0.mk hc1
 clear hr1 hc1
 have H := h; unfold epicycleref11_Good.f at H
 clear h
 have H' := Aside0.mk H
 clear H
 go_enter Tryz.func21, Tryz.ntmps21
 go_wp2
 go_loopg [9] k (fun kq v9 w' => ∃ (x9_1 : Int), v9 = .int .i64 x9_1 ∧ Aside0 (epicycleref11_Good.l0 kq a0 l1 (l1.length : Int) x9_1 = some r) ∧ Aside0 (kq ≤ k) ∧ Drawn0 w w')
 case atStart => exact ⟨(0), (by first | rfl | (simp; done) | (simp [*]; done)), H', ⟨Nat.le_refl _⟩, by repeat (first | exact Drawn0.refl _ | apply Drawn0.step)⟩
 case round =>
  clear H'
  try clear c1
  try clear c2
  try clear p2
  obtain ⟨x9_1, rfl, HA, HK1, ⟨m1, rfl⟩⟩ := hrel
  cases gk with
  | zero => exact absurd HA.out (by simp [epicycleref11_Good.l0])
  | succ k1 =>
   have H := HA.out
   clear HA
   simp only [epicycleref11_Good.l0] at H
   by_cases c3 : x9_1 < (l1.length : Int)
   ·rw [if_pos c3] at H
    have c3b0 := decide_eq_true c3
    clear c3
    by_cases c4 : 0 ≤ x9_1
    ·rw [if_pos c4] at H
     have c4b0 := decide_eq_true c4
     clear c4
     by_cases c5 : x9_1 < (l1.length : Int)
     ·rw [if_pos c5] at H
      have c5b0 := decide_eq_true c5
      clear c5
      by_cases c6 : (rd l1 x9_1) ≥ a0
      ·rw [if_pos c6] at H
       have c6b0 := decide_eq_true c6
       clear c6
       obtain rfl := Option.some.inj H
       have p179 : 0 ≤ (x9_1 : Int) := of_decide_eq_true (by assumption)
       have q179 : x9_1 < (l1.length : Int) := of_decide_eq_true (by assumption)
       obtain ⟨ad179, e179, hx179_0⟩ := Kd.at_int HR1.out x9_1 p179 q179
       cases e179
       replace p179 := eq_true p179
       replace q179 := eq_true q179
       go_wp2
       go_ret
       exact ⟨by first | rfl | (simp; done) | (simp [*]; done), by repeat (first | exact Drawn0.refl _ | apply Drawn0.step)⟩
      ·rw [if_neg c6] at H
       have c6b0 := decide_eq_false c6
       clear c6
       have H' := Aside0.mk H
       clear H
       have p179 : 0 ≤ (x9_1 : Int) := of_decide_eq_true (by assumption)
       have q179 : x9_1 < (l1.length : Int) := of_decide_eq_true (by assumption)
       obtain ⟨ad179, e179, hx179_0⟩ := Kd.at_int HR1.out x9_1 p179 q179
       cases e179
       replace p179 := eq_true p179
       replace q179 := eq_true q179
       go_wp2
       go_roundg k1
       case measure => have := HK1.out; omega
       case rel => exact ⟨(wrap64 (x9_1 + 1)), (by first | rfl | (simp; done) | (simp [*]; done)), H', ⟨by have := HK1.out; omega⟩, by repeat (first | exact Drawn0.refl _ | apply Drawn0.step)⟩
     ·rw [if_neg c5] at H
      exact absurd H (by simp)
    ·rw [if_neg c4] at H
     exact absurd H (by simp)
   ·rw [if_neg c3] at H
    have c3b0 := decide_eq_false c3
    clear c3
    obtain rfl := Option.some.inj H
    go_wp2
    go_ret
    exact ⟨by first | rfl | (simp; done) | (simp [*]; done), by repeat (first | exact Drawn0.refl _ | apply Drawn0.step)⟩
end Go.Proofs.YtndkmnjbjlfeaaaGreat.XG
end
section
namespace Go.Proofs.YtndkmnjbjlfeaaaGreat.XG
open Go.RowKit Go.Proofs.YtndkmnjbjlfeaaaGreat.Given Go.Proofs.YtndkmnjbjlfeaaaGreat.Row05 Go.Proofs.YtndkmnjbjlfeaaaGreat.XS Go.Proofs.YtndkmnjbjlfeaaaGreat.XT Go.Proofs.YtndkmnjbjlfeaaaGreat.XR Go.Proofs.YtndkmnjbjlfeaaaGreat.F06 Go.Proofs.YtndkmnjbjlfeaaaGreat.XK Go.Proofs.YtndkmnjbjlfeaaaGreat.XW Go.Proofs.YtndkmnjbjlfeaaaGreatW.PrintWords Go.Proofs.YtndkmnjbjlfeaaaGreatW.PrintLast Go.Proofs.YtndkmnjbjlfeaaaGreatW.PrintMore
attribute [local go_sem] max2_int min2_int max_two min_two max_three min_three max_four min_four   -- for this text's walks alone
set_option linter.unusedVariables false
set_option linter.unusedSimpArgs false
end Go.Proofs.YtndkmnjbjlfeaaaGreat.XG
end
section
namespace Go.Proofs.YtndkmnjbjlfeaaaGreat.T10
open Go Go.RowKit Go.Proofs.YtndkmnjbjlfeaaaGreatW.PrintWords Go.Proofs.YtndkmnjbjlfeaaaGreatW.PrintLast Go.Proofs.YtndkmnjbjlfeaaaGreatW.PrintMore Go.Proofs.YtndkmnjbjlfeaaaGreat.Given Go.Proofs.YtndkmnjbjlfeaaaGreat.M Go.Proofs.YtndkmnjbjlfeaaaGreat.Mont Go.Proofs.YtndkmnjbjlfeaaaGreat.XS Go.Proofs.YtndkmnjbjlfeaaaGreat.XT Go.Proofs.YtndkmnjbjlfeaaaGreat.XR Go.Proofs.YtndkmnjbjlfeaaaGreat.Num Go.Proofs.YtndkmnjbjlfeaaaGreat.XK Go.Proofs.YtndkmnjbjlfeaaaGreat.F06 Go.Proofs.YtndkmnjbjlfeaaaGreat.XW Go.Proofs.YtndkmnjbjlfeaaaGreat.XG
set_option linter.unusedVariables false
theorem powL_U {F : Fld} (hg : GoodFld F) (w : Int) (n : Nat) : ∀ x ∈ powL F.p w n, U x := fun x hx => by
  unfold powL at hx
  obtain ⟨i, _, rfl⟩ := List.mem_map.1 hx
  exact hg.uE _
theorem lifted_ev {F : Fld} (hg : GoodFld F) {n : Int} (h1 : 1 ≤ n) (h2 : n ≤ 4096) (hd : (F.p - 1) % n = 0) (inv : Bool) : Ev (fun k => twiddle_Lifted.f k [F] n inv) ((powL F.p (trootI F n inv) n.toNat).map (mIn F.p), 0) := by
  refine Ev.congr (fun k => rfl) (Ev.bind (table_ev hg h1 h2 hd inv) (evP ⟨powL_U hg _ _, by rw [powL_len]; omega⟩ (Ev.now _)))
end Go.Proofs.YtndkmnjbjlfeaaaGreat.T10
end
section
namespace Go.Proofs.YtndkmnjbjlfeaaaGreat.XG
open Go.RowKit Go.Proofs.YtndkmnjbjlfeaaaGreat.Given Go.Proofs.YtndkmnjbjlfeaaaGreat.Row05 Go.Proofs.YtndkmnjbjlfeaaaGreat.XS Go.Proofs.YtndkmnjbjlfeaaaGreat.XT Go.Proofs.YtndkmnjbjlfeaaaGreat.XR Go.Proofs.YtndkmnjbjlfeaaaGreat.F06 Go.Proofs.YtndkmnjbjlfeaaaGreat.XK Go.Proofs.YtndkmnjbjlfeaaaGreat.XW Go.Proofs.YtndkmnjbjlfeaaaGreatW.PrintWords Go.Proofs.YtndkmnjbjlfeaaaGreatW.PrintLast Go.Proofs.YtndkmnjbjlfeaaaGreatW.PrintMore
attribute [local go_sem] max2_int min2_int max_two min_two max_three min_three max_four min_four   -- for this text's walks alone
set_option linter.unusedVariables false
set_option linter.unusedSimpArgs false
noncomputable def dft_Check.f (l0 : List (Fld)) (a1 : Int) (a2 : Int) : Option (Int) := if (l0.length : Int) = 0 then (some 2) else (if a1 < 1 then (some 1) else (if a1 > a2 then (some 13) else ((field_Field_Divides.f l0 a1).bind fun t101 => (if t101 = true then (some 0) else (some 4)))))
set_option maxHeartbeats 8000000 in
set_option maxRecDepth 100000 in
theorem dft_Check.calls (A0 : Option Addr) (c0 : Nat) (l0 : List (Fld)) (a1 : Int) (a2 : Int) (r : Int) (w : World) (hr0 : Kd.C kFld w A0 l0.length l0) (hc0 : l0.length ≤ c0) (h : dft_Check.f l0 a1 a2 = some r) :
  Calls Tryz.prog 23 #[toPtr (.slice A0 l0.length c0), .int .i64 a1, .int .i64 a2] w fun e w' => e = .returned (.int .i64 r) ∧ Drawn0 w w' := by
 have HR0 := Aside0.mk hr0
 have HC0 := Aside0.mk hc0
 clear hr0 hc0
 have H := h; unfold dft_Check.f at H
 clear h
 by_cases c4 : (l0.length : Int) = 0
 ·rw [if_pos c4] at H
  have c4b0 := beq_iff_eq.mpr c4
  have c4b1 := bne_eq_false_iff_eq.mpr c4
  have hT_HR0 := pf_none A0 c0 (show l0.length = 0 by omega)
  (try rw [hT_HR0])
  clear c4
  obtain rfl := Option.some.inj H
  go_enter Tryz.func23, Tryz.ntmps23
  go_wp2
  go_ret
  exact ⟨by first | rfl | (simp; done) | (simp [*]; done), by repeat (first | exact Drawn0.refl _ | apply Drawn0.step)⟩
 ·rw [if_neg c4] at H
  have c4b0 := beq_eq_false_iff_ne.mpr c4
  have c4b1 := bne_iff_ne.mpr c4
  have c4b2 : ¬ (l0 = []) := fun h_ => c4 (by rw [h_]; rfl)
  obtain ⟨aT_HR0, hT_HR0⟩ := pf_some A0 c0 (show ¬ (l0.length = 0) by omega)
  (try rw [hT_HR0])
  by_cases c5 : a1 < 1
  ·rw [if_pos c5] at H
   have c5b0 := decide_eq_true c5
   clear c5
   obtain rfl := Option.some.inj H
   go_enter Tryz.func23, Tryz.ntmps23
   go_wp2
   go_ret
   exact ⟨by first | rfl | (simp; done) | (simp [*]; done), by repeat (first | exact Drawn0.refl _ | apply Drawn0.step)⟩
  ·rw [if_neg c5] at H
   have c5b0 := decide_eq_false c5
   clear c5
   by_cases c6 : a1 > a2
   ·rw [if_pos c6] at H
    have c6b0 := decide_eq_true c6
    clear c6
    obtain rfl := Option.some.inj H
    go_enter Tryz.func23, Tryz.ntmps23
    go_wp2
    go_ret
    exact ⟨by first | rfl | (simp; done) | (simp [*]; done), by repeat (first | exact Drawn0.refl _ | apply Drawn0.step)⟩
   ·rw [if_neg c6] at H
    have c6b0 := decide_eq_false c6
    clear c6
    replace H := Option.bind_eq_some_iff.mp H
    obtain ⟨t101, A70, H⟩ := H
    (try dsimp only at H)
    have A7 := Aside0.mk A70
    clear A70
    by_cases c8 : t101 = true
    ·subst c8
     have H1 := H; rw [if_pos rfl] at H1
     clear H
     have H := H1
     clear H1
     obtain rfl := Option.some.inj H
     go_enter Tryz.func23, Tryz.ntmps23
     go_wp2_with (first | ((with_reducible refine gate_callee (f := 58) rfl ?_); refine goesL_ (some 20) rfl rfl Tryz.func58 (by kernel_rfl) rfl #[toPtr (.slice A0 l0.length c0), .int .i64 a1] rfl (by (try simp only [List.map_toArray, List.map_cons, List.map_nil]); first | done | (rw [hT_HR0] <;> rfl) | rfl | (simp only [List.length_drop, List.length_take]; rfl)) ?_; (try rw [← hT_HR0]); (with_reducible refine (field_Field_Divides.calls _ _ l0 a1 true _ ?side1 ?side2 A7.out).mono ?_); (case side1 => repeat (first | exact HR0.out | (with_reducible refine Kd.C_alloc ?_ _) | (with_reducible refine Kd.C_drewN ?_ _) | (with_reducible refine Kd.C_drew ?_))); (case side2 => exact HC0.out); rintro e w' ⟨rfl, ⟨nd, rfl⟩⟩; refine ⟨_, rfl, ?_⟩))
     go_ret
     exact ⟨by first | rfl | (simp; done) | (simp [*]; done), by repeat (first | exact Drawn0.refl _ | apply Drawn0.step)⟩
    ·replace c8 := Bool.eq_false_iff.mpr c8
     subst c8
     have H1 := H; rw [if_neg (show ¬ (false = true) by decide)] at H1
     clear H
     have H := H1
     clear H1
     obtain rfl := Option.some.inj H
     go_enter Tryz.func23, Tryz.ntmps23
     go_wp2_with (first | ((with_reducible refine gate_callee (f := 58) rfl ?_); refine goesL_ (some 20) rfl rfl Tryz.func58 (by kernel_rfl) rfl #[toPtr (.slice A0 l0.length c0), .int .i64 a1] rfl (by (try simp only [List.map_toArray, List.map_cons, List.map_nil]); first | done | (rw [hT_HR0] <;> rfl) | rfl | (simp only [List.length_drop, List.length_take]; rfl)) ?_; (try rw [← hT_HR0]); (with_reducible refine (field_Field_Divides.calls _ _ l0 a1 false _ ?side1 ?side2 A7.out).mono ?_); (case side1 => repeat (first | exact HR0.out | (with_reducible refine Kd.C_alloc ?_ _) | (with_reducible refine Kd.C_drewN ?_ _) | (with_reducible refine Kd.C_drew ?_))); (case side2 => exact HC0.out); rintro e w' ⟨rfl, ⟨nd, rfl⟩⟩; refine ⟨_, rfl, ?_⟩))
     go_ret
     exact ⟨by first | rfl | (simp; done) | (simp [*]; done), by repeat (first | exact Drawn0.refl _ | apply Drawn0.step)⟩
noncomputable def dft_Good.l0 : Nat → List (Fld) → List Int → Int → Int → Option (Bool)
 | 0, _, _, _, _ => none
 | k + 1, x0, x7, x8, x9 => if x9 < x8 then (if 0 ≤ x9 then (if x9 < (x7.length : Int) then ((field_Field_Good.f x0 (rd x7 x9)).bind fun t103 => (if t103 = true then (dft_Good.l0 k x0 x7 x8 (wrap64 (x9 + 1))) else (some false))) else (none)) else (none)) else (if (x0.length : Int) = 0 then (some false) else (some true))
noncomputable def dft_Good.f (k : Nat) (l0 : List (Fld)) (l1 : List Int) : Option (Bool) := if (l0.length : Int) = 0 then (dft_Good.l0 k l0 l1 (l1.length : Int) 0) else (dft_Good.l0 k l0 l1 (l1.length : Int) 0)
set_option maxHeartbeats 8000000 in
set_option maxRecDepth 100000 in
theorem dft_Good.calls (k : Nat) (A0 : Option Addr) (c0 : Nat) (l0 : List (Fld)) (A1 : Option Addr) (c1 : Nat) (l1 : List Int) (r : Bool) (w : World) (hr0 : Kd.C kFld w A0 l0.length l0) (hc0 : l0.length ≤ c0) (hr1 : Kd.C (Kd.int .u64) w A1 l1.length l1) (hc1 : l1.length ≤ c1) (h : dft_Good.f k l0 l1 = some r) :
  Calls Tryz.prog 24 #[toPtr (.slice A0 l0.length c0), .slice A1 l1.length c1] w fun e w' => e = .returned (.bool r) ∧ Drawn0 w w' := by
 have HR0 := Aside0.mk hr0
 have HC0 := Aside0.mk hc0
 clear hr0 hc0
 have HR1 := Aside0.mk hr1
 have HC1 := Aside0.mk hc1
 clear hr1 hc1
 have H := h; unfold dft_Good.f at H
 clear h
 by_cases c3 : (l0.length : Int) = 0
 ·rw [if_pos c3] at H
  have c3b0 := beq_iff_eq.mpr c3
  have c3b1 := bne_eq_false_iff_eq.mpr c3
  have hT_HR0 := pf_none A0 c0 (show l0.length = 0 by omega)
  (try rw [hT_HR0])
  clear c3
  have H' := Aside0.mk H
  clear H
  go_enter Tryz.func24, Tryz.ntmps24
  go_wp2
  go_loopg [9] k (fun kq v9 w' => ∃ (x9_1 : Int), v9 = .int .i64 x9_1 ∧ Aside0 (dft_Good.l0 kq l0 l1 (l1.length : Int) x9_1 = some r) ∧ Aside0 (kq ≤ k) ∧ Drawn0 w w')
  case atStart => exact ⟨(0), (by first | rfl | (simp; done) | (simp [*]; done)), H', ⟨Nat.le_refl _⟩, by repeat (first | exact Drawn0.refl _ | apply Drawn0.step)⟩
  case round =>
   clear H'
   try clear c1
   try clear c2
   try clear p2
   try clear c3
   try clear c3b0
   try clear c3b1
   obtain ⟨x9_1, rfl, HA, HK1, ⟨m1, rfl⟩⟩ := hrel
   cases gk with
   | zero => exact absurd HA.out (by simp [dft_Good.l0])
   | succ k1 =>
    have H := HA.out
    clear HA
    simp only [dft_Good.l0] at H
    by_cases c4 : x9_1 < (l1.length : Int)
    ·rw [if_pos c4] at H
     have c4b0 := decide_eq_true c4
     clear c4
     by_cases c5 : 0 ≤ x9_1
     ·rw [if_pos c5] at H
      have c5b0 := decide_eq_true c5
      clear c5
      by_cases c6 : x9_1 < (l1.length : Int)
      ·rw [if_pos c6] at H
       have c6b0 := decide_eq_true c6
       clear c6
       replace H := Option.bind_eq_some_iff.mp H
       obtain ⟨t103, A70, H⟩ := H
       (try dsimp only at H)
       have A7 := Aside0.mk A70
       clear A70
       by_cases c8 : t103 = true
       ·subst c8
        have H1 := H; rw [if_pos rfl] at H1
        clear H
        have H := H1
        clear H1
        have H' := Aside0.mk H
        clear H
        have p102 : 0 ≤ (x9_1 : Int) := of_decide_eq_true (by assumption)
        have q102 : x9_1 < (l1.length : Int) := of_decide_eq_true (by assumption)
        obtain ⟨ad102, e102, hx102_0⟩ := Kd.at_int HR1.out x9_1 p102 q102
        cases e102
        replace p102 := eq_true p102
        replace q102 := eq_true q102
        go_wp2_with (first | ((with_reducible refine gate_callee (f := 59) rfl ?_); refine goesL_ (some 15) rfl rfl Tryz.func59 (by kernel_rfl) rfl #[toPtr (.slice A0 l0.length c0), .int .u64 (rd l1 x9_1)] rfl (by (try simp only [List.map_toArray, List.map_cons, List.map_nil]); first | done | (rw [hT_HR0] <;> rfl) | rfl | (simp only [List.length_drop, List.length_take]; rfl)) ?_; (try rw [← hT_HR0]); (with_reducible refine (field_Field_Good.calls _ _ l0 (rd l1 x9_1) true _ ?side1 ?side2 A7.out).mono ?_); (case side1 => repeat (first | exact HR0.out | (with_reducible refine Kd.C_alloc ?_ _) | (with_reducible refine Kd.C_drewN ?_ _) | (with_reducible refine Kd.C_drew ?_))); (case side2 => exact HC0.out); rintro e w' ⟨rfl, ⟨nd, rfl⟩⟩; refine ⟨_, rfl, ?_⟩))
        go_roundg k1
        case measure => have := HK1.out; omega
        case rel => exact ⟨(wrap64 (x9_1 + 1)), (by first | rfl | (simp; done) | (simp [*]; done)), H', ⟨by have := HK1.out; omega⟩, by repeat (first | exact Drawn0.refl _ | apply Drawn0.step)⟩
       ·replace c8 := Bool.eq_false_iff.mpr c8
        subst c8
        have H1 := H; rw [if_neg (show ¬ (false = true) by decide)] at H1
        clear H
        have H := H1
        clear H1
        obtain rfl := Option.some.inj H
        have p102 : 0 ≤ (x9_1 : Int) := of_decide_eq_true (by assumption)
        have q102 : x9_1 < (l1.length : Int) := of_decide_eq_true (by assumption)
        obtain ⟨ad102, e102, hx102_0⟩ := Kd.at_int HR1.out x9_1 p102 q102
        cases e102
        replace p102 := eq_true p102
        replace q102 := eq_true q102
        go_wp2_with (first | ((with_reducible refine gate_callee (f := 59) rfl ?_); refine goesL_ (some 15) rfl rfl Tryz.func59 (by kernel_rfl) rfl #[toPtr (.slice A0 l0.length c0), .int .u64 (rd l1 x9_1)] rfl (by (try simp only [List.map_toArray, List.map_cons, List.map_nil]); first | done | (rw [hT_HR0] <;> rfl) | rfl | (simp only [List.length_drop, List.length_take]; rfl)) ?_; (try rw [← hT_HR0]); (with_reducible refine (field_Field_Good.calls _ _ l0 (rd l1 x9_1) false _ ?side1 ?side2 A7.out).mono ?_); (case side1 => repeat (first | exact HR0.out | (with_reducible refine Kd.C_alloc ?_ _) | (with_reducible refine Kd.C_drewN ?_ _) | (with_reducible refine Kd.C_drew ?_))); (case side2 => exact HC0.out); rintro e w' ⟨rfl, ⟨nd, rfl⟩⟩; refine ⟨_, rfl, ?_⟩))
        go_ret
        exact ⟨by first | rfl | (simp; done) | (simp [*]; done), by repeat (first | exact Drawn0.refl _ | apply Drawn0.step)⟩
      ·rw [if_neg c6] at H
       exact absurd H (by simp)
     ·rw [if_neg c5] at H
      exact absurd H (by simp)
    ·rw [if_neg c4] at H
     have c4b0 := decide_eq_false c4
     clear c4
     by_cases c9 : (l0.length : Int) = 0
     ·rw [if_pos c9] at H
      have c9b0 := beq_iff_eq.mpr c9
      have c9b1 := bne_eq_false_iff_eq.mpr c9
      have hT_HR0 := pf_none A0 c0 (show l0.length = 0 by omega)
      (try rw [hT_HR0])
      clear c9
      obtain rfl := Option.some.inj H
      go_wp2
      go_ret
      exact ⟨by first | rfl | (simp; done) | (simp [*]; done), by repeat (first | exact Drawn0.refl _ | apply Drawn0.step)⟩
     ·rw [if_neg c9] at H
      have c9b0 := beq_eq_false_iff_ne.mpr c9
      have c9b1 := bne_iff_ne.mpr c9
      have c9b2 : ¬ (l0 = []) := fun h_ => c9 (by rw [h_]; rfl)
      obtain ⟨_, hq_⟩ := pf_some A0 c0 (show ¬ (l0.length = 0) by omega)
      exact absurd (hT_HR0.symm.trans hq_) (by simp)
 ·rw [if_neg c3] at H
  have c3b0 := beq_eq_false_iff_ne.mpr c3
  have c3b1 := bne_iff_ne.mpr c3
  have c3b2 : ¬ (l0 = []) := fun h_ => c3 (by rw [h_]; rfl)
  obtain ⟨aT_HR0, hT_HR0⟩ := pf_some A0 c0 (show ¬ (l0.length = 0) by omega)
  (try rw [hT_HR0])
  have H' := Aside0.mk H
  clear H
  go_enter Tryz.func24, Tryz.ntmps24
  go_wp2
  go_loopg [9] k (fun kq v9 w' => ∃ (x9_1 : Int), v9 = .int .i64 x9_1 ∧ Aside0 (dft_Good.l0 kq l0 l1 (l1.length : Int) x9_1 = some r) ∧ Aside0 (kq ≤ k) ∧ Drawn0 w w')
  case atStart => exact ⟨(0), (by first | rfl | (simp; done) | (simp [*]; done)), H', ⟨Nat.le_refl _⟩, by repeat (first | exact Drawn0.refl _ | apply Drawn0.step)⟩
  case round =>
   clear H'
   try clear c1
   try clear p1
   try clear q1
   try clear hx1
   try clear c2
   try clear p2
   try clear c3
   try clear c3b0
   try clear c3b1
   try clear c3b2
   try clear c4
   try clear c4b0
   try clear c5
   try clear c5b0
   try clear c6
   try clear c6b0
   try clear p6
   try clear c8
   try clear c9
   try clear c9b0
   try clear c9b1
   try clear c9b2
   try clear hx102_0
   try clear p102
   try clear p2
   try clear q102
   obtain ⟨x9_1, rfl, HA, HK1, ⟨m1, rfl⟩⟩ := hrel
   cases gk with
   | zero => exact absurd HA.out (by simp [dft_Good.l0])
   | succ k1 =>
    have H := HA.out
    clear HA
    simp only [dft_Good.l0] at H
    by_cases c10 : x9_1 < (l1.length : Int)
    ·rw [if_pos c10] at H
     have c10b0 := decide_eq_true c10
     clear c10
     by_cases c11 : 0 ≤ x9_1
     ·rw [if_pos c11] at H
      have c11b0 := decide_eq_true c11
      clear c11
      by_cases c12 : x9_1 < (l1.length : Int)
      ·rw [if_pos c12] at H
       have c12b0 := decide_eq_true c12
       clear c12
       replace H := Option.bind_eq_some_iff.mp H
       obtain ⟨t103, A130, H⟩ := H
       (try dsimp only at H)
       have A13 := Aside0.mk A130
       clear A130
       by_cases c14 : t103 = true
       ·subst c14
        have H1 := H; rw [if_pos rfl] at H1
        clear H
        have H := H1
        clear H1
        have H' := Aside0.mk H
        clear H
        have p102 : 0 ≤ (x9_1 : Int) := of_decide_eq_true (by assumption)
        have q102 : x9_1 < (l1.length : Int) := of_decide_eq_true (by assumption)
        obtain ⟨ad102, e102, hx102_0⟩ := Kd.at_int HR1.out x9_1 p102 q102
        cases e102
        replace p102 := eq_true p102
        replace q102 := eq_true q102
        go_wp2_with (first | ((with_reducible refine gate_callee (f := 59) rfl ?_); refine goesL_ (some 15) rfl rfl Tryz.func59 (by kernel_rfl) rfl #[toPtr (.slice A0 l0.length c0), .int .u64 (rd l1 x9_1)] rfl (by (try simp only [List.map_toArray, List.map_cons, List.map_nil]); first | done | (rw [hT_HR0] <;> rfl) | rfl | (simp only [List.length_drop, List.length_take]; rfl)) ?_; (try rw [← hT_HR0]); (with_reducible refine (field_Field_Good.calls _ _ l0 (rd l1 x9_1) true _ ?side1 ?side2 A13.out).mono ?_); (case side1 => repeat (first | exact HR0.out | (with_reducible refine Kd.C_alloc ?_ _) | (with_reducible refine Kd.C_drewN ?_ _) | (with_reducible refine Kd.C_drew ?_))); (case side2 => exact HC0.out); rintro e w' ⟨rfl, ⟨nd, rfl⟩⟩; refine ⟨_, rfl, ?_⟩))
        go_roundg k1
        case measure => have := HK1.out; omega
        case rel => exact ⟨(wrap64 (x9_1 + 1)), (by first | rfl | (simp; done) | (simp [*]; done)), H', ⟨by have := HK1.out; omega⟩, by repeat (first | exact Drawn0.refl _ | apply Drawn0.step)⟩
       ·replace c14 := Bool.eq_false_iff.mpr c14
        subst c14
        have H1 := H; rw [if_neg (show ¬ (false = true) by decide)] at H1
        clear H
        have H := H1
        clear H1
        obtain rfl := Option.some.inj H
        have p102 : 0 ≤ (x9_1 : Int) := of_decide_eq_true (by assumption)
        have q102 : x9_1 < (l1.length : Int) := of_decide_eq_true (by assumption)
        obtain ⟨ad102, e102, hx102_0⟩ := Kd.at_int HR1.out x9_1 p102 q102
        cases e102
        replace p102 := eq_true p102
        replace q102 := eq_true q102
        go_wp2_with (first | ((with_reducible refine gate_callee (f := 59) rfl ?_); refine goesL_ (some 15) rfl rfl Tryz.func59 (by kernel_rfl) rfl #[toPtr (.slice A0 l0.length c0), .int .u64 (rd l1 x9_1)] rfl (by (try simp only [List.map_toArray, List.map_cons, List.map_nil]); first | done | (rw [hT_HR0] <;> rfl) | rfl | (simp only [List.length_drop, List.length_take]; rfl)) ?_; (try rw [← hT_HR0]); (with_reducible refine (field_Field_Good.calls _ _ l0 (rd l1 x9_1) false _ ?side1 ?side2 A13.out).mono ?_); (case side1 => repeat (first | exact HR0.out | (with_reducible refine Kd.C_alloc ?_ _) | (with_reducible refine Kd.C_drewN ?_ _) | (with_reducible refine Kd.C_drew ?_))); (case side2 => exact HC0.out); rintro e w' ⟨rfl, ⟨nd, rfl⟩⟩; refine ⟨_, rfl, ?_⟩))
        go_ret
        exact ⟨by first | rfl | (simp; done) | (simp [*]; done), by repeat (first | exact Drawn0.refl _ | apply Drawn0.step)⟩
      ·rw [if_neg c12] at H
       exact absurd H (by simp)
     ·rw [if_neg c11] at H
      exact absurd H (by simp)
    ·rw [if_neg c10] at H
     have c10b0 := decide_eq_false c10
     clear c10
     by_cases c15 : (l0.length : Int) = 0
     ·rw [if_pos c15] at H
      have c15b0 := beq_iff_eq.mpr c15
      have c15b1 := bne_eq_false_iff_eq.mpr c15
      have hq_ := pf_none A0 c0 (show l0.length = 0 by omega)
      exact absurd (hT_HR0.symm.trans hq_) (by simp)
     ·rw [if_neg c15] at H
      have c15b0 := beq_eq_false_iff_ne.mpr c15
      have c15b1 := bne_iff_ne.mpr c15
      have c15b2 : ¬ (l0 = []) := fun h_ => c15 (by rw [h_]; rfl)
      obtain ⟨aT_HR0, hT_HR0⟩ := pf_some A0 c0 (show ¬ (l0.length = 0) by omega)
      (try rw [hT_HR0])
      obtain rfl := Option.some.inj H
      go_wp2
      go_ret
      exact ⟨by first | rfl | (simp; done) | (simp [*]; done), by repeat (first | exact Drawn0.refl _ | apply Drawn0.step)⟩
noncomputable def dft_Scale.l0 : Nat → List (Fld) → Int → List Int → List Int → Int → Int → Option (List Int)
 | 0, _, _, _, _, _, _ => none
 | k + 1, x0, x5, x6, x19, x20, x21 => if x21 < x20 then (if 0 ≤ x21 then (if x21 < (x19.length : Int) then ((field_Field_Times.f x0 x5 (rd x19 x21)).bind fun t110 => (if x21 < (x6.length : Int) then (dft_Scale.l0 k x0 x5 (x6.set (x21 : Int).toNat t110) x19 x20 (wrap64 (x21 + 1))) else (none))) else (none)) else (none)) else (some x6)
noncomputable def dft_Scale.f (k : Nat) (l0 : List (Fld)) (l1 : List Int) : Option (List Int) := (field_Field_Inv.f l0 (IntKind.u64.wrap ((l1.length : Int)))).bind fun t104 => ((field_Field_Lift.f l0 t104).bind fun t105 => (if 0 ≤ (l1.length : Int) then (if ((l1.length : Int) : Int).toNat ≤ 35184372088832 then (dft_Scale.l0 k l0 t105 (List.replicate ((l1.length : Int) : Int).toNat 0) l1 (l1.length : Int) 0) else (none)) else (none)))
set_option maxHeartbeats 8000000 in
set_option maxRecDepth 100000 in
theorem dft_Scale.calls (k : Nat) (A0 : Option Addr) (c0 : Nat) (l0 : List (Fld)) (A1 : Option Addr) (c1 : Nat) (l1 : List Int) (r : List Int) (w : World) (hr0 : Kd.C kFld w A0 l0.length l0) (hc0 : l0.length ≤ c0) (hr1 : Kd.C (Kd.int .u64) w A1 l1.length l1) (hc1 : l1.length ≤ c1) (h : dft_Scale.f k l0 l1 = some r) :
  Calls Tryz.prog 25 #[toPtr (.slice A0 l0.length c0), .slice A1 l1.length c1] w fun e w' => ∃ v0_ : Value, e = .returned (v0_) ∧ Kd.R (Kd.int .u64) 22 w' w.heap.size (fun _ => True) v0_ r ∧ Below w.heap.size w w' := by
 have HR0 := Aside0.mk hr0
 have HC0 := Aside0.mk hc0
 clear hr0 hc0
 have HR1 := Aside0.mk hr1
 have HC1 := Aside0.mk hc1
 clear hr1 hc1
 have HB := Aside0.mk (Below.refl w.heap.size w)
 have H := h; unfold dft_Scale.f at H
 clear h
 replace H := Option.bind_eq_some_iff.mp H
 obtain ⟨t104, A30, H⟩ := H
 (try dsimp only at H)
 have A3 := Aside0.mk A30
 clear A30
 replace H := Option.bind_eq_some_iff.mp H
 obtain ⟨t105, A40, H⟩ := H
 (try dsimp only at H)
 have A4 := Aside0.mk A40
 clear A40
 by_cases c5 : 0 ≤ (l1.length : Int)
 ·rw [if_pos c5] at H
  have c5b0 := eq_true c5
  have c5b1 := decide_eq_true c5
  clear c5
  by_cases c6 : ((l1.length : Int) : Int).toNat ≤ 35184372088832
  ·rw [if_pos c6] at H
   have c6b0 := eq_true c6
   have c6b1 := decide_eq_true c6
   clear c6
   obtain ⟨y106, hy106⟩ : ∃ y_ : List Int, y_ = (List.replicate ((l1.length : Int) : Int).toNat 0) := ⟨_, rfl⟩
   replace H : (dft_Scale.l0 k l0 t105 y106 l1 (l1.length : Int) 0) = some r := by first | (rw [hy106]; with_reducible exact H) | (have H2_ := (Option.bind_some _ _).symm.trans H; rw [hy106]; with_reducible exact H2_) | (have H2_ := (Option.bind_some _ _).symm.trans H; with_reducible exact H2_) | with_reducible exact H | (rw [hy106]; exact H) | exact H
   have Ny106 := Aside0.mk hy106
   clear hy106
   have H' := Aside0.mk H
   clear H
   go_enter Tryz.func25, Tryz.ntmps25
   go_wp2_with (first | ((with_reducible refine gate_callee (f := 61) rfl ?_); refine goesL_ (some 14) rfl rfl Tryz.func61 (by kernel_rfl) rfl #[toPtr (.slice A0 l0.length c0), .int .u64 (IntKind.u64.wrap ((l1.length : Int)))] rfl (by (try simp only [List.map_toArray, List.map_cons, List.map_nil]); first | done | (rw [hT_HR0] <;> rfl) | rfl | (simp only [List.length_drop, List.length_take]; rfl)) ?_; (try rw [← hT_HR0]); (with_reducible refine (field_Field_Inv.calls _ _ l0 (IntKind.u64.wrap ((l1.length : Int))) t104 _ ?side1 ?side2 A3.out).mono ?_); (case side1 => repeat (first | exact HR0.out | (with_reducible refine Kd.C_alloc ?_ _) | (with_reducible refine Kd.C_drewN ?_ _) | (with_reducible refine Kd.C_drew ?_))); (case side2 => exact HC0.out); rintro e w' ⟨rfl, ⟨nd, rfl⟩⟩; refine ⟨_, rfl, ?_⟩) | ((with_reducible refine gate_callee (f := 60) rfl ?_); refine goesL_ (some 15) rfl rfl Tryz.func60 (by kernel_rfl) rfl #[toPtr (.slice A0 l0.length c0), .int .u64 t104] rfl (by (try simp only [List.map_toArray, List.map_cons, List.map_nil]); first | done | (rw [hT_HR0] <;> rfl) | rfl | (simp only [List.length_drop, List.length_take]; rfl)) ?_; (try rw [← hT_HR0]); (with_reducible refine (field_Field_Lift.calls _ _ l0 t104 t105 _ ?side1 ?side2 A4.out).mono ?_); (case side1 => repeat (first | exact HR0.out | (with_reducible refine Kd.C_alloc ?_ _) | (with_reducible refine Kd.C_drewN ?_ _) | (with_reducible refine Kd.C_drew ?_))); (case side2 => exact HC0.out); rintro e w' ⟨rfl, ⟨nd, rfl⟩⟩; refine ⟨_, rfl, ?_⟩) | ((with_reducible refine gate_dst (N := 18) rfl ?_); refine Kd.R_make (Kd.int .u64) _ 22 rfl (N := 18) rfl 26 _ _ rfl (l1.length : Int) rfl rfl Tryz.underlying26 (.int .u64 0) 8 info22 rfl (by decide) (by omega) 0 (ok := fun _ => True) (okp := fun _ => True) rfl (fun _ hk => hk) trivial (of_decide_eq_true (by assumption)) (Nat.le_trans (Nat.mul_le_mul_right _ (of_decide_eq_true (by assumption) : (l1.length : Int).toNat ≤ 35184372088832)) (by omega)) (Below.refl _ _) (Nat.le_refl _) ?_; intro v107 w7 ho8 hb hg_ hnew_; clear hg_ hnew_; (first | rw [← Ny106.out] at ho8 | (simp only [Int.reduceToNat] at ho8; rw [← Ny106.out] at ho8)); have n0_ := Aside0.mk (Kd.R_lower ho8 (below_size bel_)); have n1_ := Aside0.mk (below_step bel_ hb); clear HB; have HO108 := n0_; have HB := n1_; clear n0_ n1_; clear hb ho8))
   go_loopg [21] k (fun kq v21 w' => ∃ (x6_1 : List Int) (x21_1 : Int), v21 = .int .i64 x21_1 ∧ Aside0 (dft_Scale.l0 kq l0 t105 x6_1 l1 (l1.length : Int) x21_1 = some r) ∧ Aside0 (kq ≤ k) ∧ Aside0 (Kd.R (Kd.int .u64) 22 w' w.heap.size (fun _ => True) v107 x6_1) ∧ Aside0 (Below w.heap.size w w'))
   case atStart => exact ⟨(y106), (0), (by first | rfl | (simp; done) | (simp [*]; done)), H', ⟨Nat.le_refl _⟩, ⟨by (with_reducible repeat (first | apply Kd.R_alloc | apply Kd.R_drewN | apply Kd.R_drew)); exact HO108.out⟩, ⟨bel_⟩⟩
   case round =>
    clear H'
    try clear c1
    try clear c2
    try clear p2
    try clear c5
    try clear c5b0
    try clear c5b1
    try clear c6
    try clear c6b0
    try clear c6b1
    obtain ⟨x6_1, x21_1, rfl, HA, HK1, HO_6, HB⟩ := hrel
    cases gk with
    | zero => exact absurd HA.out (by simp [dft_Scale.l0])
    | succ k1 =>
     have H := HA.out
     clear HA
     simp only [dft_Scale.l0] at H
     by_cases c9 : x21_1 < (l1.length : Int)
     ·rw [if_pos c9] at H
      have c9b0 := decide_eq_true c9
      clear c9
      by_cases c10 : 0 ≤ x21_1
      ·rw [if_pos c10] at H
       have c10b0 := decide_eq_true c10
       clear c10
       by_cases c11 : x21_1 < (l1.length : Int)
       ·rw [if_pos c11] at H
        have c11b0 := decide_eq_true c11
        clear c11
        replace H := Option.bind_eq_some_iff.mp H
        obtain ⟨t110, A120, H⟩ := H
        (try dsimp only at H)
        have A12 := Aside0.mk A120
        clear A120
        by_cases c13 : x21_1 < (x6_1.length : Int)
        ·rw [if_pos c13] at H
         have c13b0 := decide_eq_true c13
         clear c13
         obtain ⟨y111, hy111⟩ : ∃ y_ : List Int, y_ = (x6_1.set (x21_1 : Int).toNat t110) := ⟨_, rfl⟩
         replace H : (dft_Scale.l0 k1 l0 t105 y111 l1 (l1.length : Int) (wrap64 (x21_1 + 1))) = some r := by first | (rw [hy111]; with_reducible exact H) | (have H2_ := (Option.bind_some _ _).symm.trans H; rw [hy111]; with_reducible exact H2_) | (have H2_ := (Option.bind_some _ _).symm.trans H; with_reducible exact H2_) | with_reducible exact H | (rw [hy111]; exact H) | exact H
         have Ny111 := Aside0.mk hy111
         clear hy111
         have H' := Aside0.mk H
         clear H
         have p109 : 0 ≤ (x21_1 : Int) := of_decide_eq_true (by assumption)
         have q109 : x21_1 < (l1.length : Int) := of_decide_eq_true (by assumption)
         obtain ⟨ad109, e109, hx109_0⟩ := Kd.at_int HR1.out x21_1 p109 q109
         cases e109
         replace hx109_0 := (HB.out.cell (World.block_lt_of_cell? w _ hx109_0)).trans hx109_0
         replace p109 := eq_true p109
         replace q109 := eq_true q109
         go_wp2_with (first | ((with_reducible refine gate_callee (f := 62) rfl ?_); refine goesL_ (some 31) rfl rfl Tryz.func62 (by kernel_rfl) rfl #[toPtr (.slice A0 l0.length c0), .int .u64 t105, .int .u64 (rd l1 x21_1)] rfl (by (try simp only [List.map_toArray, List.map_cons, List.map_nil]); first | done | (rw [hT_HR0] <;> rfl) | rfl | (simp only [List.length_drop, List.length_take]; rfl)) ?_; (try rw [← hT_HR0]); (with_reducible refine (field_Field_Times.calls _ _ l0 t105 (rd l1 x21_1) t110 _ ?side1 ?side2 A12.out).mono ?_); (case side1 => repeat (first | exact (Kd.C_below HR0.out HB.out) | (with_reducible refine Kd.C_alloc ?_ _) | (with_reducible refine Kd.C_drewN ?_ _) | (with_reducible refine Kd.C_drew ?_))); (case side2 => exact HC0.out); rintro e w' ⟨rfl, ⟨nd, rfl⟩⟩; refine ⟨_, rfl, ?_⟩; (try (rw [drewN_self wr]; generalize hq_ : World.drewN wr _ = wr; have n0_ : Aside0 (Kd.R (Kd.int .u64) 22 wr w.heap.size (fun _ => True) v107 x6_1) := ⟨by rw [← hq_]; exact (by (with_reducible repeat (first | apply Kd.R_alloc | apply Kd.R_drewN | apply Kd.R_drew)); exact HO_6.out)⟩; have n1_ : Aside0 (Below w.heap.size w wr) := ⟨by rw [← hq_]; exact bel_⟩; clear HO_6 HB hq_; have HO_6 := n0_; have HB := n1_; clear n0_ n1_)); have p14 : 0 ≤ (x21_1 : Int) := of_decide_eq_true (by assumption); have q14 : (x21_1 : Int) < ((x6_1.length : Int) : Int) := of_decide_eq_true (by assumption); obtain ⟨go14, co14, eo14, gb14, gl14, cl14, HG14⟩ := Kd.R_form HO_6.out (by omega); (first | cases eo14 | (injection eo14 with ea_ en_ ec_; (first | subst ea_ | (injection ea_ with ea_; subst ea_)); subst ec_; clear en_)); have GB14 := Aside0.mk gb14; have GG14 := Aside0.mk HG14; clear gb14 gl14 HG14; obtain ⟨hx14_0, hf14_0⟩ := Kd.R_celln 0 HO_6.out (x21_1 : Int) p14 q14; replace p14 := eq_true p14; replace q14 := eq_true q14; obtain ⟨hy15_, hz15_⟩ := Kd.R_celln 0 HO_6.out (x21_1 : Int) (of_decide_eq_true (by assumption)) (of_decide_eq_true (by assumption)); have HP15 := Kd.R_putg HO_6.out (x21_1 : Int) t110) | ((with_reducible refine gate_store (t := 22) (p := 32) rfl ?_); refine store_event (t := 22) (p := 32) (v := ?vo_w16) (w1 := (wr.setCell ⟨go14, (x21_1 : Int).toNat, none⟩ (.int .u64 t110))) ?hg ?ho ?hn ?hr ?_; (case ho => rfl); (case hg => rfl); (case hn => rfl); (case hr => first | (go_simp; done) | (go_simp; rfl)); intro w16 hw; have hg : wr.grownBy w16 (some go14) := (by rw [hw]; exact HP15.2); have hp_ : Kd.R (Kd.int .u64) 22 w16 w.heap.size (fun _ => True) (.slice (some ⟨go14, 0, none⟩) x6_1.length co14) y111 := (by rw [hw, Ny111.out]; exact HP15.1); clear HP15; have n0_ := Aside0.mk (hp_); have n1_ := Aside0.mk ((by rw [hw]; exact below_set (HB.out) GB14.out : Below w.heap.size w w16)); clear HO_6; clear HB; have HO_6 := n0_; have HB := n1_; clear n0_ n1_; clear hg hw hp_))
         go_roundg k1
         case measure => have := HK1.out; omega
         case rel => exact ⟨(y111), (wrap64 (x21_1 + 1)), (by first | rfl | (simp; done) | (simp [*]; done)), H', ⟨by have := HK1.out; omega⟩, ⟨by (with_reducible repeat (first | apply Kd.R_alloc | apply Kd.R_drewN | apply Kd.R_drew)); exact HO_6.out⟩, ⟨bel_⟩⟩
        ·rw [if_neg c13] at H
         exact absurd H (by simp)
       ·rw [if_neg c11] at H
        exact absurd H (by simp)
      ·rw [if_neg c10] at H
       exact absurd H (by simp)
     ·rw [if_neg c9] at H
      have c9b0 := decide_eq_false c9
      clear c9
      obtain rfl := Option.some.inj H
      go_wp2
      go_ret
      exact ⟨_, by first | rfl | (simp [errW_none, errW_some] <;> rfl) | (simp [*, errW_none, errW_some] <;> rfl), by (with_reducible repeat (first | apply Kd.R_alloc | apply Kd.R_drewN | apply Kd.R_drew)); exact HO_6.out, bel_⟩
  ·rw [if_neg c6] at H
   exact absurd H (by simp)
 ·rw [if_neg c5] at H
  exact absurd H (by simp)
end Go.Proofs.YtndkmnjbjlfeaaaGreat.XG
end
section
namespace Go.Proofs.YtndkmnjbjlfeaaaGreat.XG
open Go.RowKit Go.Proofs.YtndkmnjbjlfeaaaGreat.Given Go.Proofs.YtndkmnjbjlfeaaaGreat.Row05 Go.Proofs.YtndkmnjbjlfeaaaGreat.XS Go.Proofs.YtndkmnjbjlfeaaaGreat.XT Go.Proofs.YtndkmnjbjlfeaaaGreat.XR Go.Proofs.YtndkmnjbjlfeaaaGreat.F06 Go.Proofs.YtndkmnjbjlfeaaaGreat.XK Go.Proofs.YtndkmnjbjlfeaaaGreat.XW Go.Proofs.YtndkmnjbjlfeaaaGreatW.PrintWords Go.Proofs.YtndkmnjbjlfeaaaGreatW.PrintLast Go.Proofs.YtndkmnjbjlfeaaaGreatW.PrintMore
attribute [local go_sem] max2_int min2_int max_two min_two max_three min_three max_four min_four   -- for this text's walks alone
set_option linter.unusedVariables false
set_option linter.unusedSimpArgs false
mutual
noncomputable def dft_sums.l0 : Nat → List (Fld) → List Int → Int → List Int → List Int → Int → Int → Option (List Int)
 | 0, _, _, _, _, _, _, _ => none
 | k + 1, x0, x1, x7, x8, x10, x27, x28 => if x28 < x27 then (dft_sums.l1 k x0 x1 x7 x8 x10 x28 0 x27 x28 x1 (x1.length : Int) 0) else (some x10)
noncomputable def dft_sums.l1 : Nat → List (Fld) → List Int → Int → List Int → List Int → Int → Int → Int → Int → List Int → Int → Int → Option (List Int)
 | 0, _, _, _, _, _, _, _, _, _, _, _, _ => none
 | k + 1, x0, x1, x7, x8, x10, x11, x12, x27, x28, x31, x32, x33 => if x33 < x32 then (if 0 ≤ x33 then (if x33 < (x31.length : Int) then (if 0 ≤ x11 then (if x11 < (x10.length : Int) then (if 0 ≤ x12 then (if x12 < (x8.length : Int) then ((field_Field_Times.f x0 (rd x8 x12) (rd x31 x33)).bind fun t122 => ((field_Field_Add.f x0 (rd x10 x11) t122).bind fun t123 => (if x7 = 0 then (none) else (dft_sums.l1 k x0 x1 x7 x8 (x10.set (x11 : Int).toNat t123) x11 (Int.tmod (wrap64 (x12 + x11)) x7) x27 x28 x31 x32 (wrap64 (x33 + 1)))))) else (none)) else (none)) else (none)) else (none)) else (none)) else (none)) else (dft_sums.l0 k x0 x1 x7 x8 x10 x27 (wrap64 (x28 + 1)))
end
noncomputable def dft_sums.f (k : Nat) (l0 : List (Fld)) (l1 : List Int) (a2 : Bool) : Option (List Int) := (twiddle_Lifted.f k l0 (l1.length : Int) a2).bind fun bt112 => (if 0 ≤ (l1.length : Int) then (if ((l1.length : Int) : Int).toNat ≤ 35184372088832 then ((some (List.replicate ((l1.length : Int) : Int).toNat 0 : List Int)).bind fun y116 => (dft_sums.l0 k l0 l1 (l1.length : Int) bt112.1 y116 (y116.length : Int) 0)) else (none)) else (none))
def dft_sums.T11 : Bool × List (List Nat × List Nat) := (true, [([], []), ([], []), ([], []), ([], []), ([], []), ([3, 4], [3, 4]), ([5], [5]), ([], []), ([], []), ([], []), ([8, 9], [8, 9]), ([10], [10]), ([], []), ([7, 11, 12], [7, 11, 12]), ([2, 6, 13, 13], [2, 6, 13]), ([0, 1, 0, 1, 2, 3, 4, 5, 6, 7, 8, 9, 10, 11, 12, 13, 14], [0, 1]), ([15, 14, 14, 0, 1, 2, 3, 4, 5, 6, 7, 8, 9, 10, 11, 12, 13, 14], [14, 15])])
def dft_sums.B11 : List Nat := [0, 0, 0, 0, 0, 24, 56, 0, 0, 0, 768, 1792, 0, 8064, 16380, 32767, 65535]
theorem dft_sums.tab11 : rtab .any (opsOf Tryz.f53 11) = dft_sums.T11 := by kernel_rfl
theorem dft_sums.bits11 : waitsOk dft_sums.T11.2 dft_sums.B11 = true := by kernel_rfl
set_option maxHeartbeats 8000000 in
set_option maxRecDepth 100000 in
theorem dft_sums.calls (k : Nat) (A0 : Option Addr) (c0 : Nat) (l0 : List (Fld)) (A1 : Option Addr) (c1 : Nat) (l1 : List Int) (a2 : Bool) (r : List Int) (w : World) (hr0 : Kd.C kFld w A0 l0.length l0) (hc0 : l0.length ≤ c0) (hr1 : Kd.C (Kd.int .u64) w A1 l1.length l1) (hc1 : l1.length ≤ c1) (h : dft_sums.f k l0 l1 a2 = some r) :
  Calls Tryz.prog 53 #[toPtr (.slice A0 l0.length c0), .slice A1 l1.length c1, .bool a2] w fun e w' => ∃ v0_ : Value, e = .returned (v0_) ∧ Kd.R (Kd.int .u64) 22 w' w.heap.size (fun _ => True) v0_ r ∧ Below w.heap.size w w' := by
 have HR0 := Aside0.mk hr0
 have HC0 := Aside0.mk hc0
 clear hr0 hc0
 have HR1 := Aside0.mk hr1
 have HC1 := Aside0.mk hc1
 clear hr1 hc1
 have HB := Aside0.mk (Below.refl w.heap.size w)
 have H := h; unfold dft_sums.f at H
 clear h
 replace H := Option.bind_eq_some_iff.mp H
 obtain ⟨⟨t112, t113⟩, A40, H⟩ := H
 (try dsimp only at H)
 have A4 := Aside0.mk A40
 clear A40
 by_cases c5 : 0 ≤ (l1.length : Int)
 ·rw [if_pos c5] at H
  have c5b0 := eq_true c5
  have c5b1 := decide_eq_true c5
  clear c5
  by_cases c6 : ((l1.length : Int) : Int).toNat ≤ 35184372088832
  ·rw [if_pos c6] at H
   have c6b0 := eq_true c6
   have c6b1 := decide_eq_true c6
   clear c6
   obtain ⟨y116, hy116⟩ : ∃ y_ : List Int, y_ = (List.replicate ((l1.length : Int) : Int).toNat 0) := ⟨_, rfl⟩
   replace H : (dft_sums.l0 k l0 l1 (l1.length : Int) t112 y116 (y116.length : Int) 0) = some r := by first | (rw [hy116]; with_reducible exact H) | (have H2_ := (Option.bind_some _ _).symm.trans H; rw [hy116]; with_reducible exact H2_) | (have H2_ := (Option.bind_some _ _).symm.trans H; with_reducible exact H2_) | with_reducible exact H | (rw [hy116]; exact H) | exact H
   have Ny116 := Aside0.mk hy116
   clear hy116
   have H' := Aside0.mk H
   clear H
   go_enter Tryz.func53, Tryz.ntmps53
   go_wp2_with (first | ((with_reducible refine gate_callee (f := 66) rfl ?_); refine goesL_ (some 21) rfl rfl Tryz.func66 (by kernel_rfl) rfl #[toPtr (.slice A0 l0.length c0), .int .i64 (l1.length : Int), .bool a2] rfl (by (try simp only [List.map_toArray, List.map_cons, List.map_nil]); first | done | (rw [hT_HR0] <;> rfl) | rfl | (simp only [List.length_drop, List.length_take]; rfl)) ?_; (try rw [← hT_HR0]); (with_reducible refine (twiddle_Lifted.calls k _ _ l0 (l1.length : Int) a2 t112 t113 _ ?side1 ?side2 A4.out).mono ?_); (case side1 => repeat (first | exact HR0.out | (with_reducible refine Kd.C_alloc ?_ _) | (with_reducible refine Kd.C_drewN ?_ _) | (with_reducible refine Kd.C_drew ?_))); (case side2 => exact HC0.out); rintro e w7 ⟨v114, rfl, ho0, hb⟩; refine ⟨_, rfl, ?_⟩; have n0_ := Aside0.mk (Kd.R_lower ho0 (below_size bel_)); have n1_ := Aside0.mk (below_step bel_ hb); clear HB; have HO115 := n0_; have HB := n1_; clear n0_ n1_; (try clear hb); (try clear hb2); (try clear hk); (try clear hi); (try clear ho0)) | ((with_reducible refine gate_dst (N := 25) rfl ?_); refine Kd.R_make (Kd.int .u64) _ 22 rfl (N := 25) rfl 26 _ _ rfl (l1.length : Int) rfl rfl Tryz.underlying26 (.int .u64 0) 8 info22 rfl (by decide) (by omega) 0 (ok := fun _ => True) (okp := fun _ => True) rfl (fun _ hk => hk) trivial (of_decide_eq_true (by assumption)) (Nat.le_trans (Nat.mul_le_mul_right _ (of_decide_eq_true (by assumption) : (l1.length : Int).toNat ≤ 35184372088832)) (by omega)) (Below.refl _ _) (Nat.le_refl _) ?_; intro v117 w8 ho9 hb hg_ hnew_; clear hg_ hnew_; (first | rw [← Ny116.out] at ho9 | (simp only [Int.reduceToNat] at ho9; rw [← Ny116.out] at ho9)); have n0_ := Aside0.mk (Kd.R_elder' (by (with_reducible repeat (first | apply Kd.R_alloc | apply Kd.R_drewN | apply Kd.R_drew)); exact HO115.out) (Kd.R_base ho9) hb); have n1_ := Aside0.mk (Kd.R_lower (Kd.R_new' ho9 (Kd.R_lt (by (with_reducible repeat (first | apply Kd.R_alloc | apply Kd.R_drewN | apply Kd.R_drew)); exact HO115.out))) (below_size bel_)); have n2_ := Aside0.mk (below_step bel_ hb); clear HO115; clear HB; have HO115 := n0_; have HO118 := n1_; have HB := n2_; clear n0_ n1_ n2_; clear hb ho9; obtain ⟨Ao10, co10, eo10⟩ := Kd.R_slice HO118.out; subst eo10))
   go_loopg [28] k (fun kq v28 w' => ∃ (x10_1 : List Int) (x28_1 : Int), v28 = .int .i64 x28_1 ∧ Aside0 (dft_sums.l0 kq l0 l1 (l1.length : Int) t112 x10_1 (y116.length : Int) x28_1 = some r) ∧ Aside0 (kq ≤ k) ∧ Aside0 (Kd.R (Kd.int .u64) 22 w' w.heap.size (fun k_ => some k_ ≠ ((.slice Ao10 y116.length co10) : Value).ownBlock) v114 t112) ∧ Aside0 (Kd.R (Kd.int .u64) 22 w' w.heap.size (fun k_ => some k_ ≠ (v114 : Value).ownBlock) (.slice Ao10 y116.length co10) x10_1) ∧ Aside0 (Below w.heap.size w w'))
   case atStart => exact ⟨(y116), (0), (by first | rfl | (simp; done) | (simp [*]; done)), H', ⟨Nat.le_refl _⟩, ⟨by (with_reducible repeat (first | apply Kd.R_alloc | apply Kd.R_drewN | apply Kd.R_drew)); exact Kd.R_mono HO115.out (fun _ hk => hk.2)⟩, ⟨by (with_reducible repeat (first | apply Kd.R_alloc | apply Kd.R_drewN | apply Kd.R_drew)); exact Kd.R_mono HO118.out (fun _ hk => hk.2)⟩, ⟨bel_⟩⟩
   case round =>
    clear H'
    try clear c1
    try clear p2
    try clear c5
    try clear c5b0
    try clear c5b1
    try clear c6
    try clear c6b0
    try clear c6b1
    obtain ⟨x10_1, x28_1, rfl, HA, HK1, HO_8, HO_10, HB⟩ := hrel
    have hl10_1 := (Kd.R_reads' HO_10.out).1
    rw [hl10_1] at HO_10
    (try simp only [hl10_1])
    (try simp only [hl10_1] at HO_8)
    cases gk with
    | zero => exact absurd HA.out (by simp [dft_sums.l0])
    | succ k1 =>
     have H := HA.out
     clear HA
     simp only [dft_sums.l0] at H
     by_cases c11 : x28_1 < (y116.length : Int)
     ·rw [if_pos c11] at H
      have c11b0 := decide_eq_true c11
      (try (have c11b0hl10_1 := c11b0; simp only [hl10_1] at c11b0hl10_1))
      clear c11
      have H' := Aside0.mk H
      clear H
      go_wp2
      go_loopg [12, 33] k1 (fun kq v12 v33 w' => ∃ (x10_2 : List Int) (x12_2 : Int) (x33_2 : Int), v12 = .int .i64 x12_2 ∧ v33 = .int .i64 x33_2 ∧ Aside0 (dft_sums.l1 kq l0 l1 (l1.length : Int) t112 x10_2 x28_1 x12_2 (y116.length : Int) x28_1 l1 (l1.length : Int) x33_2 = some r) ∧ Aside0 (kq ≤ k1) ∧ Aside0 (Kd.R (Kd.int .u64) 22 w' w.heap.size (fun k_ => some k_ ≠ ((.slice Ao10 x10_1.length co10) : Value).ownBlock) v114 t112) ∧ Aside0 (Kd.R (Kd.int .u64) 22 w' w.heap.size (fun k_ => some k_ ≠ (v114 : Value).ownBlock) (.slice Ao10 x10_1.length co10) x10_2) ∧ Aside0 (Below w.heap.size w w'))
      case atStart => exact ⟨(x10_1), (0), (0), (by first | rfl | (simp; done) | (simp [*]; done)), (by first | rfl | (simp; done) | (simp [*]; done)), H', ⟨Nat.le_refl _⟩, ⟨by (try simp only [hl10_1]); (with_reducible repeat (first | apply Kd.R_alloc | apply Kd.R_drewN | apply Kd.R_drew)); exact HO_8.out⟩, ⟨by (try simp only [hl10_1]); (with_reducible repeat (first | apply Kd.R_alloc | apply Kd.R_drewN | apply Kd.R_drew)); exact HO_10.out⟩, ⟨bel_⟩⟩
      case round =>
       clear H'
       try clear c1
       try clear p2
       try clear c5
       try clear c5b0
       try clear c5b1
       try clear c6
       try clear c6b0
       try clear c6b1
       try clear c11
       try clear c11b0
       try clear p2
       obtain ⟨x10_2, x12_2, x33_2, rfl, rfl, HA, HK2, HO_8, HO_10, HB⟩ := hrel
       have hl10_2 := (Kd.R_reads' HO_10.out).1
       rw [hl10_2] at HO_10
       (try simp only [hl10_2])
       (try simp only [hl10_2] at HO_8)
       cases gk with
       | zero => exact absurd HA.out (by simp [dft_sums.l1])
       | succ k2 =>
        have H := HA.out
        clear HA
        simp only [dft_sums.l1] at H
        by_cases c12 : x33_2 < (l1.length : Int)
        ·rw [if_pos c12] at H
         have c12b0 := decide_eq_true c12
         (try (have c12b0hl10_1 := c12b0; simp only [hl10_1] at c12b0hl10_1))
         (try (have c12b0hl10_2 := c12b0; simp only [hl10_2] at c12b0hl10_2))
         clear c12
         by_cases c13 : 0 ≤ x33_2
         ·rw [if_pos c13] at H
          have c13b0 := decide_eq_true c13
          clear c13
          by_cases c14 : x33_2 < (l1.length : Int)
          ·rw [if_pos c14] at H
           have c14b0 := decide_eq_true c14
           (try (have c14b0hl10_1 := c14b0; simp only [hl10_1] at c14b0hl10_1))
           (try (have c14b0hl10_2 := c14b0; simp only [hl10_2] at c14b0hl10_2))
           clear c14
           by_cases c15 : 0 ≤ x28_1
           ·rw [if_pos c15] at H
            have c15b0 := decide_eq_true c15
            clear c15
            by_cases c16 : x28_1 < (x10_2.length : Int)
            ·rw [if_pos c16] at H
             have c16b0 := decide_eq_true c16
             (try (have c16b0hl10_1 := c16b0; simp only [hl10_1] at c16b0hl10_1))
             (try (have c16b0hl10_2 := c16b0; simp only [hl10_2] at c16b0hl10_2))
             clear c16
             by_cases c17 : 0 ≤ x12_2
             ·rw [if_pos c17] at H
              have c17b0 := decide_eq_true c17
              clear c17
              by_cases c18 : x12_2 < (t112.length : Int)
              ·rw [if_pos c18] at H
               have c18b0 := decide_eq_true c18
               (try (have c18b0hl10_1 := c18b0; simp only [hl10_1] at c18b0hl10_1))
               (try (have c18b0hl10_2 := c18b0; simp only [hl10_2] at c18b0hl10_2))
               clear c18
               replace H := Option.bind_eq_some_iff.mp H
               obtain ⟨t122, A190, H⟩ := H
               (try dsimp only at H)
               have A19 := Aside0.mk A190
               clear A190
               replace H := Option.bind_eq_some_iff.mp H
               obtain ⟨t123, A200, H⟩ := H
               (try dsimp only at H)
               have A20 := Aside0.mk A200
               clear A200
               obtain ⟨y124, hy124⟩ : ∃ y_ : List Int, y_ = (x10_2.set (x28_1 : Int).toNat t123) := ⟨_, rfl⟩
               replace H : (if (l1.length : Int) = 0 then (none) else (dft_sums.l1 k2 l0 l1 (l1.length : Int) t112 y124 x28_1 (Int.tmod (wrap64 (x12_2 + x28_1)) (l1.length : Int)) (y116.length : Int) x28_1 l1 (l1.length : Int) (wrap64 (x33_2 + 1)))) = some r := by first | (rw [hy124]; with_reducible exact H) | (have H2_ := (Option.bind_some _ _).symm.trans H; rw [hy124]; with_reducible exact H2_) | (have H2_ := (Option.bind_some _ _).symm.trans H; with_reducible exact H2_) | with_reducible exact H | (rw [hy124]; exact H) | exact H
               have Ny124 := Aside0.mk hy124
               clear hy124
               by_cases c22 : (l1.length : Int) = 0
               ·rw [if_pos c22] at H
                exact absurd H (by simp)
               ·rw [if_neg c22] at H
                have c22b0 := beq_eq_false_iff_ne.mpr c22
                have c22b1 := bne_iff_ne.mpr c22
                have c22b2 : ¬ (l1 = []) := fun h_ => c22 (by rw [h_]; rfl)
                (try (have c22b0hl10_1 := c22b0; simp only [hl10_1] at c22b0hl10_1))
                (try (have c22b1hl10_1 := c22b1; simp only [hl10_1] at c22b1hl10_1))
                (try (have c22b0hl10_2 := c22b0; simp only [hl10_2] at c22b0hl10_2))
                (try (have c22b1hl10_2 := c22b1; simp only [hl10_2] at c22b1hl10_2))
                have H' := Aside0.mk H
                clear H
                have p119 : 0 ≤ (x33_2 : Int) := of_decide_eq_true (by assumption)
                have q119 : x33_2 < (l1.length : Int) := of_decide_eq_true (by assumption)
                obtain ⟨ad119, e119, hx119_0⟩ := Kd.at_int HR1.out x33_2 p119 q119
                cases e119
                replace hx119_0 := (HB.out.cell (World.block_lt_of_cell? w _ hx119_0)).trans hx119_0
                replace p119 := eq_true p119
                replace q119 := eq_true q119
                try go_wp2
                have n0_ := Aside0.mk (Kd.R_drew HO_8.out)
                have n1_ := Aside0.mk (Kd.R_drew HO_10.out)
                have n2_ := Aside0.mk (below_drew1 HB.out)
                clear HO_8
                clear HO_10
                clear HB
                have HO_8 := n0_
                have HO_10 := n1_
                have HB := n2_
                clear n0_ n1_ n2_
                have p120 : 0 ≤ (x28_1 : Int) := of_decide_eq_true (by assumption)
                have q120 : x28_1 < (x10_2.length : Int) := of_decide_eq_true (by assumption)
                obtain ⟨ad120, e120, hx120_0⟩ := Kd.at_int (Kd.R_reads' HO_10.out).2.2 x28_1 p120 q120
                cases e120
                replace p120 := eq_true p120
                replace q120 := eq_true q120
                obtain ⟨Ao24, co24, eo24⟩ := Kd.R_slice HO_8.out
                (first | subst eo24 | (injection eo24 with f1_ f2_ f3_; have f4_ := f1_.symm; have f5_ := f3_.symm; clear f1_ f2_ f3_; subst f4_; subst f5_))
                have p121 : 0 ≤ (x12_2 : Int) := of_decide_eq_true (by assumption)
                have q121 : x12_2 < (t112.length : Int) := of_decide_eq_true (by assumption)
                obtain ⟨ad121, e121, hx121_0⟩ := Kd.at_int (Kd.R_reads' HO_8.out).2.2 x12_2 p121 q121
                cases e121
                replace p121 := eq_true p121
                replace q121 := eq_true q121
                refine start_ (n := 17) (S := fun w' => w'.cell? (ad120.add (x28_1).toNat) = some (.int .u64 (rd x10_2 x28_1)) ∧ w'.cell? (ad121.add (x12_2).toNat) = some (.int .u64 (rd t112 x12_2))) (ds := [16]) #[false, false, false, false, false, false, false, false, false, false, false, false, false, false, false, false, false] (by kernel_rfl) rfl rfl ⟨hx120_0, hx121_0⟩ (fun hHeld => ?_); refine with_tabW dft_sums.tab11 dft_sums.bits11 (fun HT_ HW_ => ?_)
                generalize wr.drew = w23 at HO_8 HO_10 HB hx120_0 hx121_0 hHeld ⊢
                refine pS_ 0 37 (any_of HT_.out (by kernel_rfl)) rfl rfl ?_
                refine pS_ 1 38 (any_of HT_.out (by kernel_rfl)) rfl rfl ?_
                refine pS_ 2 39 (any_of HT_.out (by kernel_rfl)) rfl rfl ?_
                refine pS_ 3 40 (any_of HT_.out (by kernel_rfl)) rfl rfl ?_
                refine pS_ 4 41 (any_of HT_.out (by kernel_rfl)) rfl rfl ?_
                refine pS_ 5 42 (any_of HT_.out (by kernel_rfl)) rfl rfl ?_
                refine pS_ 7 44 (any_of HT_.out (by kernel_rfl)) rfl rfl ?_
                refine pS_ 8 45 (any_of HT_.out (by kernel_rfl)) rfl rfl ?_
                refine pS_ 9 46 (any_of HT_.out (by kernel_rfl)) rfl rfl ?_
                refine pS_ 10 47 (any_of HT_.out (by kernel_rfl)) rfl rfl ?_
                refine pS_ 12 49 (any_of HT_.out (by kernel_rfl)) rfl rfl ?_
                refine tS_ 6 43 (take_ofW HT_.out HW_.out (by kernel_rfl)) hHeld (by rintro w' ⟨s0, s1⟩; go_simp; with_reducible rfl) rfl rfl ?_
                refine tS_ 11 48 (take_ofW HT_.out HW_.out (by kernel_rfl)) hHeld (by rintro w' ⟨s0, s1⟩; go_simp; with_reducible rfl) rfl rfl ?_
                refine one_ (i := 13) (N := some 50) #[true, true, true, true, true, true, true, true, true, true, true, true, true, true, false, false, false] rfl rfl (one_of HT_.out (by kernel_rfl)) (by decide) (fun K hK => ?_)
                refine goes_ Tryz.func62 (by kernel_rfl) rfl #[toPtr (.slice A0 l0.length c0), .int .u64 (rd t112 x12_2), .int .u64 (rd l1 x33_2)] (by rfl) rfl rfl (by (try simp only [List.map_toArray, List.map_cons, List.map_nil]); first | done | (rw [hT_HR0] <;> rfl) | (rw [hT_HR0] <;> rfl) | rfl | (simp only [List.length_drop, List.length_take]; rfl)) ?_
                (try rw [← hT_HR0])
                with_reducible refine (field_Field_Times.calls _ _ l0 (rd t112 x12_2) (rd l1 x33_2) t122 _ ?side1 ?side2 A19.out).mono ?_
                (case side1 => repeat (first | exact (Kd.C_below HR0.out HB.out) | (with_reducible refine Kd.C_alloc ?_ _) | (with_reducible refine Kd.C_drewN ?_ _) | (with_reducible refine Kd.C_drew ?_)))
                (case side2 => exact HC0.out)
                rintro e w' ⟨rfl, ⟨nd, rfl⟩⟩
                refine ⟨_, rfl, ?_⟩
                refine hK.out _ _ ⟨hHeld.1, hHeld.2⟩ (fun hHeld => ?_)
                clear hK K
                refine nS_ ?_
                refine one_ (i := 14) (N := some 51) #[true, true, true, true, true, true, true, true, true, true, true, true, true, true, true, false, false] rfl rfl (one_of HT_.out (by kernel_rfl)) (by decide) (fun K hK => ?_)
                refine goes_ Tryz.func96 (by kernel_rfl) rfl #[toPtr (.slice A0 l0.length c0), .int .u64 (rd x10_2 x28_1), .int .u64 t122] (by rfl) rfl rfl (by (try simp only [List.map_toArray, List.map_cons, List.map_nil]); first | done | (rw [hT_HR0] <;> rfl) | (rw [hT_HR0] <;> rfl) | rfl | (simp only [List.length_drop, List.length_take]; rfl)) ?_
                (try rw [← hT_HR0])
                with_reducible refine (field_Field_Add.calls _ _ l0 (rd x10_2 x28_1) t122 t123 _ ?side1 ?side2 A20.out).mono ?_
                (case side1 => repeat (first | exact (Kd.C_below HR0.out bel_) | (with_reducible refine Kd.C_alloc ?_ _) | (with_reducible refine Kd.C_drewN ?_ _) | (with_reducible refine Kd.C_drew ?_)))
                (case side2 => exact HC0.out)
                rintro e w' ⟨rfl, ⟨nd, rfl⟩⟩
                refine ⟨_, rfl, ?_⟩
                have p21 : 0 ≤ (x28_1 : Int) := of_decide_eq_true (by assumption)
                have q21 : (x28_1 : Int) < ((x10_2.length : Int) : Int) := of_decide_eq_true (by assumption)
                obtain ⟨go21, co21, eo21, gb21, gl21, cl21, HG21⟩ := Kd.R_form HO_10.out (by omega)
                (first | cases eo21 | (injection eo21 with ea_ en_ ec_; (first | subst ea_ | (injection ea_ with ea_; subst ea_)); subst ec_; clear en_))
                have GB21 := Aside0.mk gb21
                have GG21 := Aside0.mk HG21
                clear gb21 gl21 HG21
                (first | simp only [add_plain] at hx120_0 | skip)
                obtain ⟨hx21_0, hf21_0⟩ := Kd.R_celln 0 HO_10.out (x28_1 : Int) p21 q21
                replace p21 := eq_true p21
                replace q21 := eq_true q21
                have HP25 := Kd.R_putn HO_10.out (x28_1 : Int) t123
                rw [← Ny124.out] at HP25
                have HQ25 := Aside0.mk HP25
                clear HP25
                refine hK.out _ _ ⟨hHeld.1, hHeld.2⟩ (fun hHeld => ?_)
                clear hK K
                refine nS_ ?_
                refine pS_ 15 52 (any_of HT_.out (by kernel_rfl)) rfl rfl ?_
                refine last_ (i := 16) (N := none) #[true, true, true, true, true, true, true, true, true, true, true, true, true, true, true, true, true] rfl rfl (one_of HT_.out (by kernel_rfl)) (by decide) (fun K hK => ?_)
                refine skip_ (w1 := ?_) (by rfl) rfl ?_ ?_
                rotate_left
                ·go_simp
                 rfl
                refine hK.out _ _ ?_
                clear hK K
                refine done_ (done_of HT_.out (by kernel_rfl)) ?_
                try go_wp2
                (try simp only [← hl10_2])
                go_roundg k2
                case measure => have := HK1.out; have := HK2.out; omega
                case rel => exact ⟨(y124), (Int.tmod (wrap64 (x12_2 + x28_1)) (l1.length : Int)), (wrap64 (x33_2 + 1)), (by first | rfl | (simp; done) | (simp [*]; done)), (by first | rfl | (simp; done) | (simp [*]; done)), H', ⟨by have := HK1.out; have := HK2.out; omega⟩, ⟨by (try simp only [hl10_1]); (try simp only [hl10_2]); (with_reducible repeat (first | apply Kd.R_alloc | apply Kd.R_drewN | apply Kd.R_drew)); exact Kd.R_mono (Kd.R_far (p := ⟨go21, (x28_1 : Int).toNat, none⟩) (Kd.R_mono HO_8.out (fun k_ hk => (⟨hk, fun e_ => hk (by rw [e_]; rfl)⟩ : _ ∧ k_ ≠ go21))) (fun _ hk => hk.2) (.int .u64 t123)) (fun _ hk => hk.1)⟩, ⟨by (try simp only [hl10_1]); (try simp only [hl10_2]); (with_reducible repeat (first | apply Kd.R_alloc | apply Kd.R_drewN | apply Kd.R_drew)); exact HQ25.out⟩, ⟨by repeat (first | (with_reducible first | exact HB.out | apply below_alloc | apply pw_below_drewN | apply below_drew1 | refine below_set ?_ GB21.out) | exact HB.out)⟩⟩
              ·rw [if_neg c18] at H
               exact absurd H (by simp)
             ·rw [if_neg c17] at H
              exact absurd H (by simp)
            ·rw [if_neg c16] at H
             exact absurd H (by simp)
           ·rw [if_neg c15] at H
            exact absurd H (by simp)
          ·rw [if_neg c14] at H
           exact absurd H (by simp)
         ·rw [if_neg c13] at H
          exact absurd H (by simp)
        ·rw [if_neg c12] at H
         have c12b0 := decide_eq_false c12
         (try (have c12b0hl10_1 := c12b0; simp only [hl10_1] at c12b0hl10_1))
         (try (have c12b0hl10_2 := c12b0; simp only [hl10_2] at c12b0hl10_2))
         clear c12
         have H' := Aside0.mk H
         clear H
         go_wp2
         (try simp only [← hl10_1, ← hl10_2])
         go_roundg k2
         case measure => have := HK1.out; have := HK2.out; omega
         case rel => exact ⟨(x10_2), (wrap64 (x28_1 + 1)), (by first | rfl | (simp; done) | (simp [*]; done)), H', ⟨by have := HK1.out; have := HK2.out; omega⟩, ⟨by (try simp only [hl10_1]); (try simp only [hl10_2]); (with_reducible repeat (first | apply Kd.R_alloc | apply Kd.R_drewN | apply Kd.R_drew)); exact HO_8.out⟩, ⟨by (try simp only [hl10_1]); (try simp only [hl10_2]); (with_reducible repeat (first | apply Kd.R_alloc | apply Kd.R_drewN | apply Kd.R_drew)); exact HO_10.out⟩, ⟨bel_⟩⟩
     ·rw [if_neg c11] at H
      have c11b0 := decide_eq_false c11
      (try (have c11b0hl10_1 := c11b0; simp only [hl10_1] at c11b0hl10_1))
      clear c11
      obtain rfl := Option.some.inj H
      go_wp2
      go_ret
      exact ⟨_, by first | rfl | (simp [errW_none, errW_some] <;> rfl) | (simp [*, errW_none, errW_some] <;> rfl), by (with_reducible repeat (first | apply Kd.R_alloc | apply Kd.R_drewN | apply Kd.R_drew)); exact Kd.R_mono HO_10.out (fun _ hk => trivial), bel_⟩
  ·rw [if_neg c6] at H
   exact absurd H (by simp)
 ·rw [if_neg c5] at H
  exact absurd H (by simp)
noncomputable def dft_Run.f (k : Nat) (l0 : List (Fld)) (l1 : List Int) (a2 : Bool) : Option (List Int × Int) := (dft_Check.f l0 (l1.length : Int) 1024).bind fun t125 => (if t125 = 0 then ((dft_Good.f k l0 l1).bind fun t126 => (if t126 = true then ((dft_sums.f k l0 l1 a2).bind fun t127 => (if a2 = true then ((dft_Scale.f k l0 t127).bind fun t130 => (some (t130, 0))) else (some (t127, 0)))) else (some (([] : List Int), 9)))) else (some (([] : List Int), t125)))
set_option maxHeartbeats 8000000 in
set_option maxRecDepth 100000 in
theorem dft_Run.calls (k : Nat) (A0 : Option Addr) (c0 : Nat) (l0 : List (Fld)) (A1 : Option Addr) (c1 : Nat) (l1 : List Int) (a2 : Bool) (r1 : List Int) (r2 : Int) (w : World) (hr0 : Kd.C kFld w A0 l0.length l0) (hc0 : l0.length ≤ c0) (hr1 : Kd.C (Kd.int .u64) w A1 l1.length l1) (hc1 : l1.length ≤ c1) (h : dft_Run.f k l0 l1 a2 = some (r1, r2)) :
  Calls Tryz.prog 18 #[toPtr (.slice A0 l0.length c0), .slice A1 l1.length c1, .bool a2] w fun e w' => ∃ v0_ : Value, e = .returned (.tuple #[v0_, .int .i64 r2]) ∧ Kd.R (Kd.int .u64) 22 w' w.heap.size (fun _ => True) v0_ r1 ∧ Below w.heap.size w w' := by
 have HR0 := Aside0.mk hr0
 have HC0 := Aside0.mk hc0
 clear hr0 hc0
 have HR1 := Aside0.mk hr1
 have HC1 := Aside0.mk hc1
 clear hr1 hc1
 have HB := Aside0.mk (Below.refl w.heap.size w)
 have H := h; unfold dft_Run.f at H
 clear h
 replace H := Option.bind_eq_some_iff.mp H
 obtain ⟨t125, A40, H⟩ := H
 (try dsimp only at H)
 have A4 := Aside0.mk A40
 clear A40
 by_cases c5 : t125 = 0
 ·rw [if_pos c5] at H
  have c5b0 := beq_iff_eq.mpr c5
  have c5b1 := bne_eq_false_iff_eq.mpr c5
  clear c5
  replace H := Option.bind_eq_some_iff.mp H
  obtain ⟨t126, A60, H⟩ := H
  (try dsimp only at H)
  have A6 := Aside0.mk A60
  clear A60
  by_cases c7 : t126 = true
  ·subst c7
   have H1 := H; rw [if_pos rfl] at H1
   clear H
   have H := H1
   clear H1
   replace H := Option.bind_eq_some_iff.mp H
   obtain ⟨t127, A80, H⟩ := H
   (try dsimp only at H)
   have A8 := Aside0.mk A80
   clear A80
   by_cases c9 : a2 = true
   ·subst c9
    have H1 := H; rw [if_pos rfl] at H1
    clear H
    have H := H1
    clear H1
    replace H := Option.bind_eq_some_iff.mp H
    obtain ⟨t130, A100, H⟩ := H
    (try dsimp only at H)
    have A10 := Aside0.mk A100
    clear A100
    simp only [Option.some.injEq, Prod.mk.injEq] at H
    obtain ⟨rfl, rfl⟩ := H
    go_enter Tryz.func18, Tryz.ntmps18
    go_wp2_with (first | ((with_reducible refine gate_callee (f := 23) rfl ?_); refine goesL_ (some 13) rfl rfl Tryz.func23 (by kernel_rfl) rfl #[toPtr (.slice A0 l0.length c0), .int .i64 (l1.length : Int), .int .i64 1024] rfl (by (try simp only [List.map_toArray, List.map_cons, List.map_nil]); first | done | (rw [hT_HR0] <;> rfl) | rfl | (simp only [List.length_drop, List.length_take]; rfl)) ?_; (try rw [← hT_HR0]); (with_reducible refine (dft_Check.calls _ _ l0 (l1.length : Int) 1024 t125 _ ?side1 ?side2 A4.out).mono ?_); (case side1 => repeat (first | exact HR0.out | (with_reducible refine Kd.C_alloc ?_ _) | (with_reducible refine Kd.C_drewN ?_ _) | (with_reducible refine Kd.C_drew ?_))); (case side2 => exact HC0.out); rintro e w' ⟨rfl, ⟨nd, rfl⟩⟩; refine ⟨_, rfl, ?_⟩) | ((with_reducible refine gate_callee (f := 24) rfl ?_); refine goesL_ (some 19) rfl rfl Tryz.func24 (by kernel_rfl) rfl #[toPtr (.slice A0 l0.length c0), .slice A1 l1.length c1] rfl (by (try simp only [List.map_toArray, List.map_cons, List.map_nil]); first | done | (rw [hT_HR0] <;> rfl) | rfl | (simp only [List.length_drop, List.length_take]; rfl)) ?_; (try rw [← hT_HR0]); (with_reducible refine (dft_Good.calls k _ _ l0 _ _ l1 true _ ?side1 ?side2 ?side3 ?side4 A6.out).mono ?_); (case side1 => repeat (first | exact HR0.out | (with_reducible refine Kd.C_alloc ?_ _) | (with_reducible refine Kd.C_drewN ?_ _) | (with_reducible refine Kd.C_drew ?_))); (case side2 => exact HC0.out); (case side3 => repeat (first | exact HR1.out | (with_reducible refine Kd.C_alloc ?_ _) | (with_reducible refine Kd.C_drewN ?_ _) | (with_reducible refine Kd.C_drew ?_))); (case side4 => exact HC1.out); rintro e w' ⟨rfl, ⟨nd, rfl⟩⟩; refine ⟨_, rfl, ?_⟩) | ((with_reducible refine gate_callee (f := 53) rfl ?_); refine goesL_ (some 24) rfl rfl Tryz.func53 (by kernel_rfl) rfl #[toPtr (.slice A0 l0.length c0), .slice A1 l1.length c1, .bool true] rfl (by (try simp only [List.map_toArray, List.map_cons, List.map_nil]); first | done | (rw [hT_HR0] <;> rfl) | rfl | (simp only [List.length_drop, List.length_take]; rfl)) ?_; (try rw [← hT_HR0]); (with_reducible refine (dft_sums.calls k _ _ l0 _ _ l1 true t127 _ ?side1 ?side2 ?side3 ?side4 A8.out).mono ?_); (case side1 => repeat (first | exact HR0.out | (with_reducible refine Kd.C_alloc ?_ _) | (with_reducible refine Kd.C_drewN ?_ _) | (with_reducible refine Kd.C_drew ?_))); (case side2 => exact HC0.out); (case side3 => repeat (first | exact HR1.out | (with_reducible refine Kd.C_alloc ?_ _) | (with_reducible refine Kd.C_drewN ?_ _) | (with_reducible refine Kd.C_drew ?_))); (case side4 => exact HC1.out); rintro e w11 ⟨v128, rfl, ho0, hb⟩; refine ⟨_, rfl, ?_⟩; have n0_ := Aside0.mk (Kd.R_lower ho0 (below_size bel_)); have n1_ := Aside0.mk (below_step bel_ hb); clear HB; have HO129 := n0_; have HB := n1_; clear n0_ n1_; (try clear hb); (try clear hb2); (try clear hk); (try clear hi); (try clear ho0); obtain ⟨Ao12, co12, eo12⟩ := Kd.R_slice HO129.out; subst eo12) | ((with_reducible refine gate_callee (f := 25) rfl ?_); refine goesL_ (some 28) rfl rfl Tryz.func25 (by kernel_rfl) rfl #[toPtr (.slice A0 l0.length c0), .slice Ao12 t127.length co12] rfl (by (try simp only [List.map_toArray, List.map_cons, List.map_nil]); first | done | (rw [hT_HR0] <;> rfl) | rfl | (simp only [List.length_drop, List.length_take]; rfl)) ?_; (try rw [← hT_HR0]); (with_reducible refine (dft_Scale.calls k _ _ l0 _ _ t127 t130 _ ?side1 ?side2 ?side3 ?side4 A10.out).mono ?_); (case side1 => repeat (first | exact (Kd.C_below HR0.out HB.out) | (with_reducible refine Kd.C_alloc ?_ _) | (with_reducible refine Kd.C_drewN ?_ _) | (with_reducible refine Kd.C_drew ?_))); (case side2 => exact HC0.out); (case side3 => repeat (first | exact (Kd.R_reads' HO129.out).2.2 | (with_reducible refine Kd.C_alloc ?_ _) | (with_reducible refine Kd.C_drewN ?_ _) | (with_reducible refine Kd.C_drew ?_))); (case side4 => exact (Kd.R_reads' HO129.out).2.1); rintro e w13 ⟨v131, rfl, ho0, hb⟩; refine ⟨_, rfl, ?_⟩; have n0_ := Aside0.mk (Kd.R_elder' (by (with_reducible repeat (first | apply Kd.R_alloc | apply Kd.R_drewN | apply Kd.R_drew)); exact HO129.out) (Kd.R_base ho0) hb); have n1_ := Aside0.mk (Kd.R_lower (Kd.R_new' ho0 (Kd.R_lt (by (with_reducible repeat (first | apply Kd.R_alloc | apply Kd.R_drewN | apply Kd.R_drew)); exact HO129.out))) (below_size bel_)); have n2_ := Aside0.mk (below_step bel_ hb); clear HO129; clear HB; have HO129 := n0_; have HO132 := n1_; have HB := n2_; clear n0_ n1_ n2_; (try clear hb); (try clear hb2); (try clear hk); (try clear hi); (try clear ho0)))
    go_ret2
    exact ⟨_, by first | rfl | (simp [errW_none, errW_some] <;> rfl) | (simp [*, errW_none, errW_some] <;> rfl), by (with_reducible repeat (first | apply Kd.R_alloc | apply Kd.R_drewN | apply Kd.R_drew)); exact Kd.R_mono HO132.out (fun _ hk => trivial), bel_⟩
   ·replace c9 := Bool.eq_false_iff.mpr c9
    subst c9
    have H1 := H; rw [if_neg (show ¬ (false = true) by decide)] at H1
    clear H
    have H := H1
    clear H1
    simp only [Option.some.injEq, Prod.mk.injEq] at H
    obtain ⟨rfl, rfl⟩ := H
    go_enter Tryz.func18, Tryz.ntmps18
    go_wp2_with (first | ((with_reducible refine gate_callee (f := 23) rfl ?_); refine goesL_ (some 13) rfl rfl Tryz.func23 (by kernel_rfl) rfl #[toPtr (.slice A0 l0.length c0), .int .i64 (l1.length : Int), .int .i64 1024] rfl (by (try simp only [List.map_toArray, List.map_cons, List.map_nil]); first | done | (rw [hT_HR0] <;> rfl) | rfl | (simp only [List.length_drop, List.length_take]; rfl)) ?_; (try rw [← hT_HR0]); (with_reducible refine (dft_Check.calls _ _ l0 (l1.length : Int) 1024 t125 _ ?side1 ?side2 A4.out).mono ?_); (case side1 => repeat (first | exact HR0.out | (with_reducible refine Kd.C_alloc ?_ _) | (with_reducible refine Kd.C_drewN ?_ _) | (with_reducible refine Kd.C_drew ?_))); (case side2 => exact HC0.out); rintro e w' ⟨rfl, ⟨nd, rfl⟩⟩; refine ⟨_, rfl, ?_⟩) | ((with_reducible refine gate_callee (f := 24) rfl ?_); refine goesL_ (some 19) rfl rfl Tryz.func24 (by kernel_rfl) rfl #[toPtr (.slice A0 l0.length c0), .slice A1 l1.length c1] rfl (by (try simp only [List.map_toArray, List.map_cons, List.map_nil]); first | done | (rw [hT_HR0] <;> rfl) | rfl | (simp only [List.length_drop, List.length_take]; rfl)) ?_; (try rw [← hT_HR0]); (with_reducible refine (dft_Good.calls k _ _ l0 _ _ l1 true _ ?side1 ?side2 ?side3 ?side4 A6.out).mono ?_); (case side1 => repeat (first | exact HR0.out | (with_reducible refine Kd.C_alloc ?_ _) | (with_reducible refine Kd.C_drewN ?_ _) | (with_reducible refine Kd.C_drew ?_))); (case side2 => exact HC0.out); (case side3 => repeat (first | exact HR1.out | (with_reducible refine Kd.C_alloc ?_ _) | (with_reducible refine Kd.C_drewN ?_ _) | (with_reducible refine Kd.C_drew ?_))); (case side4 => exact HC1.out); rintro e w' ⟨rfl, ⟨nd, rfl⟩⟩; refine ⟨_, rfl, ?_⟩) | ((with_reducible refine gate_callee (f := 53) rfl ?_); refine goesL_ (some 24) rfl rfl Tryz.func53 (by kernel_rfl) rfl #[toPtr (.slice A0 l0.length c0), .slice A1 l1.length c1, .bool false] rfl (by (try simp only [List.map_toArray, List.map_cons, List.map_nil]); first | done | (rw [hT_HR0] <;> rfl) | rfl | (simp only [List.length_drop, List.length_take]; rfl)) ?_; (try rw [← hT_HR0]); (with_reducible refine (dft_sums.calls k _ _ l0 _ _ l1 false t127 _ ?side1 ?side2 ?side3 ?side4 A8.out).mono ?_); (case side1 => repeat (first | exact HR0.out | (with_reducible refine Kd.C_alloc ?_ _) | (with_reducible refine Kd.C_drewN ?_ _) | (with_reducible refine Kd.C_drew ?_))); (case side2 => exact HC0.out); (case side3 => repeat (first | exact HR1.out | (with_reducible refine Kd.C_alloc ?_ _) | (with_reducible refine Kd.C_drewN ?_ _) | (with_reducible refine Kd.C_drew ?_))); (case side4 => exact HC1.out); rintro e w14 ⟨v128, rfl, ho0, hb⟩; refine ⟨_, rfl, ?_⟩; have n0_ := Aside0.mk (Kd.R_lower ho0 (below_size bel_)); have n1_ := Aside0.mk (below_step bel_ hb); clear HB; have HO129 := n0_; have HB := n1_; clear n0_ n1_; (try clear hb); (try clear hb2); (try clear hk); (try clear hi); (try clear ho0)))
    go_ret2
    exact ⟨_, by first | rfl | (simp [errW_none, errW_some] <;> rfl) | (simp [*, errW_none, errW_some] <;> rfl), by (with_reducible repeat (first | apply Kd.R_alloc | apply Kd.R_drewN | apply Kd.R_drew)); exact HO129.out, bel_⟩
  ·replace c7 := Bool.eq_false_iff.mpr c7
   subst c7
   have H1 := H; rw [if_neg (show ¬ (false = true) by decide)] at H1
   clear H
   have H := H1
   clear H1
   simp only [Option.some.injEq, Prod.mk.injEq] at H
   obtain ⟨rfl, rfl⟩ := H
   go_enter Tryz.func18, Tryz.ntmps18
   go_wp2_with (first | ((with_reducible refine gate_callee (f := 23) rfl ?_); refine goesL_ (some 13) rfl rfl Tryz.func23 (by kernel_rfl) rfl #[toPtr (.slice A0 l0.length c0), .int .i64 (l1.length : Int), .int .i64 1024] rfl (by (try simp only [List.map_toArray, List.map_cons, List.map_nil]); first | done | (rw [hT_HR0] <;> rfl) | rfl | (simp only [List.length_drop, List.length_take]; rfl)) ?_; (try rw [← hT_HR0]); (with_reducible refine (dft_Check.calls _ _ l0 (l1.length : Int) 1024 t125 _ ?side1 ?side2 A4.out).mono ?_); (case side1 => repeat (first | exact HR0.out | (with_reducible refine Kd.C_alloc ?_ _) | (with_reducible refine Kd.C_drewN ?_ _) | (with_reducible refine Kd.C_drew ?_))); (case side2 => exact HC0.out); rintro e w' ⟨rfl, ⟨nd, rfl⟩⟩; refine ⟨_, rfl, ?_⟩) | ((with_reducible refine gate_callee (f := 24) rfl ?_); refine goesL_ (some 19) rfl rfl Tryz.func24 (by kernel_rfl) rfl #[toPtr (.slice A0 l0.length c0), .slice A1 l1.length c1] rfl (by (try simp only [List.map_toArray, List.map_cons, List.map_nil]); first | done | (rw [hT_HR0] <;> rfl) | rfl | (simp only [List.length_drop, List.length_take]; rfl)) ?_; (try rw [← hT_HR0]); (with_reducible refine (dft_Good.calls k _ _ l0 _ _ l1 false _ ?side1 ?side2 ?side3 ?side4 A6.out).mono ?_); (case side1 => repeat (first | exact HR0.out | (with_reducible refine Kd.C_alloc ?_ _) | (with_reducible refine Kd.C_drewN ?_ _) | (with_reducible refine Kd.C_drew ?_))); (case side2 => exact HC0.out); (case side3 => repeat (first | exact HR1.out | (with_reducible refine Kd.C_alloc ?_ _) | (with_reducible refine Kd.C_drewN ?_ _) | (with_reducible refine Kd.C_drew ?_))); (case side4 => exact HC1.out); rintro e w' ⟨rfl, ⟨nd, rfl⟩⟩; refine ⟨_, rfl, ?_⟩))
   go_ret2
   exact ⟨_, by first | rfl | (simp [errW_none, errW_some] <;> rfl) | (simp [*, errW_none, errW_some] <;> rfl), by first | exact Kd.R_nil _ _ _ _ _ | exact Kd.N_nil _ _ _ _ _ | exact Kd.V_nil _ _ _ _ _ | exact Kd.Q_nil _ _ _ _ _ | exact Kd.S_nil _ _ _ _ _, bel_⟩
 ·rw [if_neg c5] at H
  have c5b0 := beq_eq_false_iff_ne.mpr c5
  have c5b1 := bne_iff_ne.mpr c5
  simp only [Option.some.injEq, Prod.mk.injEq] at H
  obtain ⟨rfl, rfl⟩ := H
  go_enter Tryz.func18, Tryz.ntmps18
  go_wp2_with (first | ((with_reducible refine gate_callee (f := 23) rfl ?_); refine goesL_ (some 13) rfl rfl Tryz.func23 (by kernel_rfl) rfl #[toPtr (.slice A0 l0.length c0), .int .i64 (l1.length : Int), .int .i64 1024] rfl (by (try simp only [List.map_toArray, List.map_cons, List.map_nil]); first | done | (rw [hT_HR0] <;> rfl) | rfl | (simp only [List.length_drop, List.length_take]; rfl)) ?_; (try rw [← hT_HR0]); (with_reducible refine (dft_Check.calls _ _ l0 (l1.length : Int) 1024 t125 _ ?side1 ?side2 A4.out).mono ?_); (case side1 => repeat (first | exact HR0.out | (with_reducible refine Kd.C_alloc ?_ _) | (with_reducible refine Kd.C_drewN ?_ _) | (with_reducible refine Kd.C_drew ?_))); (case side2 => exact HC0.out); rintro e w' ⟨rfl, ⟨nd, rfl⟩⟩; refine ⟨_, rfl, ?_⟩))
  go_ret2
  exact ⟨_, by first | rfl | (simp [errW_none, errW_some] <;> rfl) | (simp [*, errW_none, errW_some] <;> rfl), by first | exact Kd.R_nil _ _ _ _ _ | exact Kd.N_nil _ _ _ _ _ | exact Kd.V_nil _ _ _ _ _ | exact Kd.Q_nil _ _ _ _ _ | exact Kd.S_nil _ _ _ _ _, bel_⟩
noncomputable def epicyclelaw11_same.l0 : Nat → List Int → List Int → Int → Int → Option (Bool)
 | 0, _, _, _, _ => none
 | k + 1, x0, x1, x12, x13 => if x13 < x12 then (if 0 ≤ x13 then (if x13 < (x0.length : Int) then (if x13 < (x1.length : Int) then (if (rd x0 x13) = (rd x1 x13) then (epicyclelaw11_same.l0 k x0 x1 x12 (wrap64 (x13 + 1))) else (some false)) else (none)) else (none)) else (none)) else (some true)
noncomputable def epicyclelaw11_same.f (k : Nat) (l0 : List Int) (l1 : List Int) : Option (Bool) := if (l0.length : Int) = (l1.length : Int) then (epicyclelaw11_same.l0 k l0 l1 (l0.length : Int) 0) else (some false)
set_option maxHeartbeats 8000000 in
set_option maxRecDepth 100000 in
theorem epicyclelaw11_same.calls (k : Nat) (A0 : Option Addr) (c0 : Nat) (l0 : List Int) (A1 : Option Addr) (c1 : Nat) (l1 : List Int) (r : Bool) (w : World) (hr0 : Kd.C (Kd.int .u64) w A0 l0.length l0) (hc0 : l0.length ≤ c0) (hr1 : Kd.C (Kd.int .u64) w A1 l1.length l1) (hc1 : l1.length ≤ c1) (h : epicyclelaw11_same.f k l0 l1 = some r) :
  Calls Tryz.prog 19 #[.slice A0 l0.length c0, .slice A1 l1.length c1] w fun e w' => e = .returned (.bool r) ∧ Drawn0 w w' := by
 have HR0 := Aside0.mk hr0
 have HC0 := Aside0.mk hc0
 clear hr0 hc0
 have HR1 := Aside0.mk hr1
 have HC1 := Aside0.mk hc1
 clear hr1 hc1
 have H := h; unfold epicyclelaw11_same.f at H
 clear h
 by_cases c3 : (l0.length : Int) = (l1.length : Int)
 ·rw [if_pos c3] at H
  have c3b0 := beq_iff_eq.mpr c3
  have c3b1 := bne_eq_false_iff_eq.mpr c3
  have c3b2 : (l0.length == l1.length) = true := by first | simpa using c3 | (simp at c3 ⊢; omega)
  clear c3
  have H' := Aside0.mk H
  clear H
  go_enter Tryz.func19, Tryz.ntmps19
  go_wp2
  go_loopg [13] k (fun kq v13 w' => ∃ (x13_1 : Int), v13 = .int .i64 x13_1 ∧ Aside0 (epicyclelaw11_same.l0 kq l0 l1 (l0.length : Int) x13_1 = some r) ∧ Aside0 (kq ≤ k) ∧ Drawn0 w w')
  case atStart => exact ⟨(0), (by first | rfl | (simp; done) | (simp [*]; done)), H', ⟨Nat.le_refl _⟩, by repeat (first | exact Drawn0.refl _ | apply Drawn0.step)⟩
  case round =>
   clear H'
   try clear c1
   try clear p2
   try clear c3
   try clear c3b0
   try clear c3b1
   try clear c3b2
   obtain ⟨x13_1, rfl, HA, HK1, ⟨m1, rfl⟩⟩ := hrel
   cases gk with
   | zero => exact absurd HA.out (by simp [epicyclelaw11_same.l0])
   | succ k1 =>
    have H := HA.out
    clear HA
    simp only [epicyclelaw11_same.l0] at H
    by_cases c4 : x13_1 < (l0.length : Int)
    ·rw [if_pos c4] at H
     have c4b0 := decide_eq_true c4
     clear c4
     by_cases c5 : 0 ≤ x13_1
     ·rw [if_pos c5] at H
      have c5b0 := decide_eq_true c5
      clear c5
      by_cases c6 : x13_1 < (l0.length : Int)
      ·rw [if_pos c6] at H
       have c6b0 := decide_eq_true c6
       clear c6
       by_cases c7 : x13_1 < (l1.length : Int)
       ·rw [if_pos c7] at H
        have c7b0 := decide_eq_true c7
        clear c7
        by_cases c8 : (rd l0 x13_1) = (rd l1 x13_1)
        ·rw [if_pos c8] at H
         have c8b0 := beq_iff_eq.mpr c8
         have c8b1 := bne_eq_false_iff_eq.mpr c8
         clear c8
         have H' := Aside0.mk H
         clear H
         have p133 : 0 ≤ (x13_1 : Int) := of_decide_eq_true (by assumption)
         have q133 : x13_1 < (l0.length : Int) := of_decide_eq_true (by assumption)
         obtain ⟨ad133, e133, hx133_0⟩ := Kd.at_int HR0.out x13_1 p133 q133
         cases e133
         replace p133 := eq_true p133
         replace q133 := eq_true q133
         have p134 : 0 ≤ (x13_1 : Int) := of_decide_eq_true (by assumption)
         have q134 : x13_1 < (l1.length : Int) := of_decide_eq_true (by assumption)
         obtain ⟨ad134, e134, hx134_0⟩ := Kd.at_int HR1.out x13_1 p134 q134
         cases e134
         replace p134 := eq_true p134
         replace q134 := eq_true q134
         go_wp2
         repeat (go_quiet (fail); try go_wp2)
         go_roundg k1
         case measure => have := HK1.out; omega
         case rel => exact ⟨(wrap64 (x13_1 + 1)), (by first | rfl | (simp; done) | (simp [*]; done)), H', ⟨by have := HK1.out; omega⟩, by repeat (first | exact Drawn0.refl _ | apply Drawn0.step)⟩
        ·rw [if_neg c8] at H
         have c8b0 := beq_eq_false_iff_ne.mpr c8
         have c8b1 := bne_iff_ne.mpr c8
         obtain rfl := Option.some.inj H
         have p133 : 0 ≤ (x13_1 : Int) := of_decide_eq_true (by assumption)
         have q133 : x13_1 < (l0.length : Int) := of_decide_eq_true (by assumption)
         obtain ⟨ad133, e133, hx133_0⟩ := Kd.at_int HR0.out x13_1 p133 q133
         cases e133
         replace p133 := eq_true p133
         replace q133 := eq_true q133
         have p134 : 0 ≤ (x13_1 : Int) := of_decide_eq_true (by assumption)
         have q134 : x13_1 < (l1.length : Int) := of_decide_eq_true (by assumption)
         obtain ⟨ad134, e134, hx134_0⟩ := Kd.at_int HR1.out x13_1 p134 q134
         cases e134
         replace p134 := eq_true p134
         replace q134 := eq_true q134
         go_wp2
         repeat (go_quiet (fail); try go_wp2)
         go_ret
         exact ⟨by first | rfl | (simp; done) | (simp [*]; done), by repeat (first | exact Drawn0.refl _ | apply Drawn0.step)⟩
       ·rw [if_neg c7] at H
        exact absurd H (by simp)
      ·rw [if_neg c6] at H
       exact absurd H (by simp)
     ·rw [if_neg c5] at H
      exact absurd H (by simp)
    ·rw [if_neg c4] at H
     have c4b0 := decide_eq_false c4
     clear c4
     obtain rfl := Option.some.inj H
     go_wp2
     go_ret
     exact ⟨by first | rfl | (simp; done) | (simp [*]; done), by repeat (first | exact Drawn0.refl _ | apply Drawn0.step)⟩
 ·rw [if_neg c3] at H
  have c3b0 := beq_eq_false_iff_ne.mpr c3
  have c3b1 := bne_iff_ne.mpr c3
  have c3b2 : (l0.length == l1.length) = false := by first | simpa using c3 | (simp at c3 ⊢; omega)
  obtain rfl := Option.some.inj H
  go_enter Tryz.func19, Tryz.ntmps19
  go_wp2
  go_ret
  exact ⟨by first | rfl | (simp; done) | (simp [*]; done), by repeat (first | exact Drawn0.refl _ | apply Drawn0.step)⟩
noncomputable def epicyclelaw11_alive.f (k : Nat)  : Option (Bool) := (field_Small.f k 5).bind fun bt135 => ((dft_Run.f k bt135.1 (([1, 2, 3, 4] : List Int)) false).bind fun bt142 => (if bt142.2 = 0 then ((epicyclelaw11_same.f k bt142.1 (([0, 4, 3, 2] : List Int))).bind fun t149 => (some t149)) else (some false)))
set_option maxHeartbeats 8000000 in
set_option maxRecDepth 100000 in
theorem epicyclelaw11_alive.calls (k : Nat)  (r : Bool) (w : World) (h : epicyclelaw11_alive.f k  = some r) :
  Calls Tryz.prog 16 #[] w fun e w' => e = .returned (.bool r) ∧ Below w.heap.size w w' := by
 have HB := Aside0.mk (Below.refl w.heap.size w)
 have H := h; unfold epicyclelaw11_alive.f at H
 clear h
 replace H := Option.bind_eq_some_iff.mp H
 obtain ⟨⟨t135, t136⟩, A10, H⟩ := H
 (try dsimp only at H)
 have A1 := Aside0.mk A10
 clear A10
 obtain ⟨y139, hy139⟩ : ∃ y_ : List Int, y_ = (([1, 2, 3, 4] : List Int)) := ⟨_, rfl⟩
 replace H : ((dft_Run.f k t135 y139 false).bind fun bt142 => (if bt142.2 = 0 then ((epicyclelaw11_same.f k bt142.1 (([0, 4, 3, 2] : List Int))).bind fun t149 => (some t149)) else (some false))) = some r := by first | (rw [hy139]; with_reducible exact H) | (have H2_ := (Option.bind_some _ _).symm.trans H; rw [hy139]; with_reducible exact H2_) | (have H2_ := (Option.bind_some _ _).symm.trans H; with_reducible exact H2_) | with_reducible exact H | (rw [hy139]; exact H) | exact H
 have Ny139 := Aside0.mk hy139
 clear hy139
 replace H := Option.bind_eq_some_iff.mp H
 obtain ⟨⟨t142, t143⟩, A20, H⟩ := H
 (try dsimp only at H)
 have A2 := Aside0.mk A20
 clear A20
 by_cases c3 : t143 = 0
 ·rw [if_pos c3] at H
  have c3b0 := beq_iff_eq.mpr c3
  have c3b1 := bne_eq_false_iff_eq.mpr c3
  clear c3
  obtain ⟨y146, hy146⟩ : ∃ y_ : List Int, y_ = (([0, 4, 3, 2] : List Int)) := ⟨_, rfl⟩
  replace H : ((epicyclelaw11_same.f k t142 y146).bind fun t149 => (some t149)) = some r := by first | (rw [hy146]; with_reducible exact H) | (have H2_ := (Option.bind_some _ _).symm.trans H; rw [hy146]; with_reducible exact H2_) | (have H2_ := (Option.bind_some _ _).symm.trans H; with_reducible exact H2_) | with_reducible exact H | (rw [hy146]; exact H) | exact H
  have Ny146 := Aside0.mk hy146
  clear hy146
  replace H := Option.bind_eq_some_iff.mp H
  obtain ⟨t149, A40, H⟩ := H
  (try dsimp only at H)
  have A4 := Aside0.mk A40
  clear A40
  obtain rfl := Option.some.inj H
  go_enter Tryz.func16, Tryz.ntmps16
  go_wp2_with (first | ((with_reducible refine gate_callee (f := 48) rfl ?_); refine goesL_ (some 6) rfl rfl Tryz.func48 (by kernel_rfl) rfl #[.int .u64 5] rfl (by (try simp only [List.map_toArray, List.map_cons, List.map_nil]); first | done | rfl | (simp only [List.length_drop, List.length_take]; rfl)) ?_; (with_reducible refine (field_Small.calls k 5 t135 t136 _ A1.out).mono ?_); rintro e w5 ⟨v137, rfl, ho0, hb⟩; refine ⟨_, rfl, ?_⟩; have n0_ := Aside0.mk (Kd.R_lower ho0 (below_size bel_)); have n1_ := Aside0.mk (below_step bel_ hb); clear HB; have HO138 := n0_; have HB := n1_; clear n0_ n1_; (try clear hb); (try clear hb2); (try clear hk); (try clear hi); (try clear ho0)) | ((with_reducible refine gate_dst (N := 11) rfl ?_); (try (refine gate_guard (by rfl) ?_; dsimp only)); refine Kd.R_lit (Kd.int .u64) _ 22 ?hg (N := 11) ?hd (xs := ([1, 2, 3, 4] : List Int)) (inner := [.int .u64 1, .int .u64 2, .int .u64 3, .int .u64 4]) (ok := fun _ => True) (okp := fun _ => True) ?hr ?hp (fun _ hk => hk) trivial (Below.refl _ _) (Nat.le_refl _) (by simp) ?_; (case hd => rfl); (case hg => rfl); (case hr => first | (go_simp; done) | (go_simp; rfl)); (case hp => exact (Reps.one (show Kd.M (Kd.int .u64) _ _ _ 1 [.int .u64 1] from rfl) (Reps.one (show Kd.M (Kd.int .u64) _ _ _ 2 [.int .u64 2] from rfl) (Reps.one (show Kd.M (Kd.int .u64) _ _ _ 3 [.int .u64 3] from rfl) (Reps.one (show Kd.M (Kd.int .u64) _ _ _ 4 [.int .u64 4] from rfl) (Reps.none _ _)))))); intro v140 w6 ho7 hb hg_ hnew_; clear hg_ hnew_; (first | rw [← Ny139.out] at ho7 | (simp only [Int.reduceToNat] at ho7; rw [← Ny139.out] at ho7)); have n0_ := Aside0.mk (Kd.R_below (by (with_reducible repeat (first | apply Kd.R_alloc | apply Kd.R_drewN | apply Kd.R_drew)); exact HO138.out) hb); have n1_ := Aside0.mk (Kd.R_lower ho7 (below_size bel_)); have n2_ := Aside0.mk (below_step bel_ hb); clear HO138; clear HB; have HO138 := n0_; have HO141 := n1_; have HB := n2_; clear n0_ n1_ n2_; clear hb ho7; obtain ⟨Ao8, co8, eo8⟩ := Kd.R_slice HO138.out; subst eo8; obtain ⟨Ao9, co9, eo9⟩ := Kd.R_slice HO141.out; subst eo9) | ((with_reducible refine gate_callee (f := 18) rfl ?_); refine goesL_ (some 12) rfl rfl Tryz.func18 (by kernel_rfl) rfl #[toPtr (.slice Ao8 t135.length co8), .slice Ao9 y139.length co9, .bool false] rfl (by (try simp only [List.map_toArray, List.map_cons, List.map_nil]); first | done | (rw [hT_HO138] <;> rfl) | rfl | (simp only [List.length_drop, List.length_take]; rfl)) ?_; (try rw [← hT_HO138]); (with_reducible refine (dft_Run.calls k _ _ t135 _ _ y139 false t142 t143 _ ?side1 ?side2 ?side3 ?side4 A2.out).mono ?_); (case side1 => repeat (first | exact (Kd.R_reads' HO138.out).2.2 | (with_reducible refine Kd.C_alloc ?_ _) | (with_reducible refine Kd.C_drewN ?_ _) | (with_reducible refine Kd.C_drew ?_))); (case side2 => exact (Kd.R_reads' HO138.out).2.1); (case side3 => repeat (first | exact (Kd.R_reads' HO141.out).2.2 | (with_reducible refine Kd.C_alloc ?_ _) | (with_reducible refine Kd.C_drewN ?_ _) | (with_reducible refine Kd.C_drew ?_))); (case side4 => exact (Kd.R_reads' HO141.out).2.1); rintro e w10 ⟨v144, rfl, ho0, hb⟩; refine ⟨_, rfl, ?_⟩; have n0_ := Aside0.mk (Kd.R_below (by (with_reducible repeat (first | apply Kd.R_alloc | apply Kd.R_drewN | apply Kd.R_drew)); exact HO138.out) hb); have n1_ := Aside0.mk (Kd.R_elder' (by (with_reducible repeat (first | apply Kd.R_alloc | apply Kd.R_drewN | apply Kd.R_drew)); exact HO141.out) (Kd.R_base ho0) hb); have n2_ := Aside0.mk (Kd.R_lower (Kd.R_new' ho0 (Kd.R_lt (by (with_reducible repeat (first | apply Kd.R_alloc | apply Kd.R_drewN | apply Kd.R_drew)); exact HO141.out))) (below_size bel_)); have n3_ := Aside0.mk (below_step bel_ hb); clear HO138; clear HO141; clear HB; have HO138 := n0_; have HO141 := n1_; have HO145 := n2_; have HB := n3_; clear n0_ n1_ n2_ n3_; (try clear hb); (try clear hb2); (try clear hk); (try clear hi); (try clear ho0)) | ((with_reducible refine gate_dst (N := 19) rfl ?_); (try (refine gate_guard (by rfl) ?_; dsimp only)); refine Kd.R_lit (Kd.int .u64) _ 22 ?hg (N := 19) ?hd (xs := ([0, 4, 3, 2] : List Int)) (inner := [.int .u64 0, .int .u64 4, .int .u64 3, .int .u64 2]) (ok := fun _ => True) (okp := fun _ => True) ?hr ?hp (fun _ hk => hk) trivial (Below.refl _ _) (Nat.le_refl _) (by simp) ?_; (case hd => rfl); (case hg => rfl); (case hr => first | (go_simp; done) | (go_simp; rfl)); (case hp => exact (Reps.one (show Kd.M (Kd.int .u64) _ _ _ 0 [.int .u64 0] from rfl) (Reps.one (show Kd.M (Kd.int .u64) _ _ _ 4 [.int .u64 4] from rfl) (Reps.one (show Kd.M (Kd.int .u64) _ _ _ 3 [.int .u64 3] from rfl) (Reps.one (show Kd.M (Kd.int .u64) _ _ _ 2 [.int .u64 2] from rfl) (Reps.none _ _)))))); intro v147 w11 ho12 hb hg_ hnew_; clear hg_ hnew_; (first | rw [← Ny146.out] at ho12 | (simp only [Int.reduceToNat] at ho12; rw [← Ny146.out] at ho12)); have n0_ := Aside0.mk (Kd.R_below (by (with_reducible repeat (first | apply Kd.R_alloc | apply Kd.R_drewN | apply Kd.R_drew)); exact HO138.out) hb); have n1_ := Aside0.mk (Kd.R_elder' (by (with_reducible repeat (first | apply Kd.R_alloc | apply Kd.R_drewN | apply Kd.R_drew)); exact HO141.out) (Kd.R_base ho12) hb); have n2_ := Aside0.mk (Kd.R_elder' (by (with_reducible repeat (first | apply Kd.R_alloc | apply Kd.R_drewN | apply Kd.R_drew)); exact HO145.out) (Kd.R_base ho12) hb); have n3_ := Aside0.mk (Kd.R_lower (Kd.R_new' (Kd.R_new' ho12 (Kd.R_lt (by (with_reducible repeat (first | apply Kd.R_alloc | apply Kd.R_drewN | apply Kd.R_drew)); exact HO141.out))) (Kd.R_lt (by (with_reducible repeat (first | apply Kd.R_alloc | apply Kd.R_drewN | apply Kd.R_drew)); exact HO145.out))) (below_size bel_)); have n4_ := Aside0.mk (below_step bel_ hb); clear HO138; clear HO141; clear HO145; clear HB; have HO138 := n0_; have HO141 := n1_; have HO145 := n2_; have HO148 := n3_; have HB := n4_; clear n0_ n1_ n2_ n3_ n4_; clear hb ho12; obtain ⟨Ao13, co13, eo13⟩ := Kd.R_slice HO145.out; subst eo13; obtain ⟨Ao14, co14, eo14⟩ := Kd.R_slice HO148.out; subst eo14) | (go_at_call 19; (with_reducible refine (epicyclelaw11_same.calls k _ _ t142 _ _ y146 t149 _ ?side1 ?side2 ?side3 ?side4 A4.out).mono ?_); (case side1 => repeat (first | exact (Kd.R_reads' HO145.out).2.2 | (with_reducible refine Kd.C_alloc ?_ _) | (with_reducible refine Kd.C_drewN ?_ _) | (with_reducible refine Kd.C_drew ?_))); (case side2 => exact (Kd.R_reads' HO145.out).2.1); (case side3 => repeat (first | exact (Kd.R_reads' HO148.out).2.2 | (with_reducible refine Kd.C_alloc ?_ _) | (with_reducible refine Kd.C_drewN ?_ _) | (with_reducible refine Kd.C_drew ?_))); (case side4 => exact (Kd.R_reads' HO148.out).2.1); rintro e w' ⟨rfl, ⟨nd, rfl⟩⟩))
  go_ret
  exact ⟨by first | rfl | (simp [errW_none, errW_some] <;> rfl) | (simp [*, errW_none, errW_some] <;> rfl), bel_⟩
 ·rw [if_neg c3] at H
  have c3b0 := beq_eq_false_iff_ne.mpr c3
  have c3b1 := bne_iff_ne.mpr c3
  obtain rfl := Option.some.inj H
  go_enter Tryz.func16, Tryz.ntmps16
  go_wp2_with (first | ((with_reducible refine gate_callee (f := 48) rfl ?_); refine goesL_ (some 6) rfl rfl Tryz.func48 (by kernel_rfl) rfl #[.int .u64 5] rfl (by (try simp only [List.map_toArray, List.map_cons, List.map_nil]); first | done | rfl | (simp only [List.length_drop, List.length_take]; rfl)) ?_; (with_reducible refine (field_Small.calls k 5 t135 t136 _ A1.out).mono ?_); rintro e w15 ⟨v137, rfl, ho0, hb⟩; refine ⟨_, rfl, ?_⟩; have n0_ := Aside0.mk (Kd.R_lower ho0 (below_size bel_)); have n1_ := Aside0.mk (below_step bel_ hb); clear HB; have HO138 := n0_; have HB := n1_; clear n0_ n1_; (try clear hb); (try clear hb2); (try clear hk); (try clear hi); (try clear ho0)) | ((with_reducible refine gate_dst (N := 11) rfl ?_); (try (refine gate_guard (by rfl) ?_; dsimp only)); refine Kd.R_lit (Kd.int .u64) _ 22 ?hg (N := 11) ?hd (xs := ([1, 2, 3, 4] : List Int)) (inner := [.int .u64 1, .int .u64 2, .int .u64 3, .int .u64 4]) (ok := fun _ => True) (okp := fun _ => True) ?hr ?hp (fun _ hk => hk) trivial (Below.refl _ _) (Nat.le_refl _) (by simp) ?_; (case hd => rfl); (case hg => rfl); (case hr => first | (go_simp; done) | (go_simp; rfl)); (case hp => exact (Reps.one (show Kd.M (Kd.int .u64) _ _ _ 1 [.int .u64 1] from rfl) (Reps.one (show Kd.M (Kd.int .u64) _ _ _ 2 [.int .u64 2] from rfl) (Reps.one (show Kd.M (Kd.int .u64) _ _ _ 3 [.int .u64 3] from rfl) (Reps.one (show Kd.M (Kd.int .u64) _ _ _ 4 [.int .u64 4] from rfl) (Reps.none _ _)))))); intro v140 w16 ho17 hb hg_ hnew_; clear hg_ hnew_; (first | rw [← Ny139.out] at ho17 | (simp only [Int.reduceToNat] at ho17; rw [← Ny139.out] at ho17)); have n0_ := Aside0.mk (Kd.R_below (by (with_reducible repeat (first | apply Kd.R_alloc | apply Kd.R_drewN | apply Kd.R_drew)); exact HO138.out) hb); have n1_ := Aside0.mk (Kd.R_lower ho17 (below_size bel_)); have n2_ := Aside0.mk (below_step bel_ hb); clear HO138; clear HB; have HO138 := n0_; have HO141 := n1_; have HB := n2_; clear n0_ n1_ n2_; clear hb ho17; obtain ⟨Ao18, co18, eo18⟩ := Kd.R_slice HO138.out; subst eo18; obtain ⟨Ao19, co19, eo19⟩ := Kd.R_slice HO141.out; subst eo19) | ((with_reducible refine gate_callee (f := 18) rfl ?_); refine goesL_ (some 12) rfl rfl Tryz.func18 (by kernel_rfl) rfl #[toPtr (.slice Ao18 t135.length co18), .slice Ao19 y139.length co19, .bool false] rfl (by (try simp only [List.map_toArray, List.map_cons, List.map_nil]); first | done | (rw [hT_HO138] <;> rfl) | rfl | (simp only [List.length_drop, List.length_take]; rfl)) ?_; (try rw [← hT_HO138]); (with_reducible refine (dft_Run.calls k _ _ t135 _ _ y139 false t142 t143 _ ?side1 ?side2 ?side3 ?side4 A2.out).mono ?_); (case side1 => repeat (first | exact (Kd.R_reads' HO138.out).2.2 | (with_reducible refine Kd.C_alloc ?_ _) | (with_reducible refine Kd.C_drewN ?_ _) | (with_reducible refine Kd.C_drew ?_))); (case side2 => exact (Kd.R_reads' HO138.out).2.1); (case side3 => repeat (first | exact (Kd.R_reads' HO141.out).2.2 | (with_reducible refine Kd.C_alloc ?_ _) | (with_reducible refine Kd.C_drewN ?_ _) | (with_reducible refine Kd.C_drew ?_))); (case side4 => exact (Kd.R_reads' HO141.out).2.1); rintro e w20 ⟨v144, rfl, ho0, hb⟩; refine ⟨_, rfl, ?_⟩; have n0_ := Aside0.mk (Kd.R_below (by (with_reducible repeat (first | apply Kd.R_alloc | apply Kd.R_drewN | apply Kd.R_drew)); exact HO138.out) hb); have n1_ := Aside0.mk (Kd.R_elder' (by (with_reducible repeat (first | apply Kd.R_alloc | apply Kd.R_drewN | apply Kd.R_drew)); exact HO141.out) (Kd.R_base ho0) hb); have n2_ := Aside0.mk (Kd.R_lower (Kd.R_new' ho0 (Kd.R_lt (by (with_reducible repeat (first | apply Kd.R_alloc | apply Kd.R_drewN | apply Kd.R_drew)); exact HO141.out))) (below_size bel_)); have n3_ := Aside0.mk (below_step bel_ hb); clear HO138; clear HO141; clear HB; have HO138 := n0_; have HO141 := n1_; have HO145 := n2_; have HB := n3_; clear n0_ n1_ n2_ n3_; (try clear hb); (try clear hb2); (try clear hk); (try clear hi); (try clear ho0)))
  go_ret
  exact ⟨by first | rfl | (simp [errW_none, errW_some] <;> rfl) | (simp [*, errW_none, errW_some] <;> rfl), bel_⟩
end Go.Proofs.YtndkmnjbjlfeaaaGreat.XG
end
section
namespace Go.Proofs.YtndkmnjbjlfeaaaGreat.D11
open Go Go.RowKit Go.Proofs.YtndkmnjbjlfeaaaGreatW.PrintWords Go.Proofs.YtndkmnjbjlfeaaaGreatW.PrintLast Go.Proofs.YtndkmnjbjlfeaaaGreatW.PrintMore Go.Proofs.YtndkmnjbjlfeaaaGreat.Given Go.Proofs.YtndkmnjbjlfeaaaGreat.M Go.Proofs.YtndkmnjbjlfeaaaGreat.Mont Go.Proofs.YtndkmnjbjlfeaaaGreat.XS Go.Proofs.YtndkmnjbjlfeaaaGreat.XT Go.Proofs.YtndkmnjbjlfeaaaGreat.XR Go.Proofs.YtndkmnjbjlfeaaaGreat.Num Go.Proofs.YtndkmnjbjlfeaaaGreat.XK Go.Proofs.YtndkmnjbjlfeaaaGreat.F06 Go.Proofs.YtndkmnjbjlfeaaaGreat.T10 Go.Proofs.YtndkmnjbjlfeaaaGreat.XW Go.Proofs.YtndkmnjbjlfeaaaGreat.XG
set_option linter.unusedVariables false
theorem rd_at {l : List Int} {i : Nat} (h : i < l.length) : rd l (i : Int) = l[i] := by
  rw [rd_nat, List.getD_eq_getElem?_getD, List.getElem?_eq_getElem h]
  rfl
theorem take_set1 {α : Type} {y : List α} {i : Nat} (v : α) (h : i < y.length) : (y.set i v).take (i + 1) = y.take i ++ [v] := by
  have hl : (y.take i).length = i := by rw [List.length_take]; omega
  rw [List.take_set, List.take_succ_eq_append_getElem h, List.set_append_right _ _ (by omega), hl, Nat.sub_self, List.set_cons_zero]
theorem rd_set {y : List Int} {i : Nat} (v : Int) (h : i < y.length) : rd (y.set i v) (i : Int) = v := by
  rw [rd_at (by rw [List.length_set]; exact h), List.getElem_set_self]
theorem rd_set_ne {y : List Int} {i j : Nat} (v : Int) (h : i ≠ j) : rd (y.set i v) (j : Int) = rd y (j : Int) := by
  rw [rd_nat, rd_nat, List.getD_eq_getElem?_getD, List.getD_eq_getElem?_getD, List.getElem?_set_ne h]
theorem rd_rep (n : Nat) (j : Nat) : rd (List.replicate n 0) (j : Int) = 0 := by
  rw [rd_nat, List.getD_eq_getElem?_getD, List.getElem?_replicate]
  split <;> rfl
theorem rd_map_range {f : Nat → Int} {n i : Nat} (h : i < n) : rd ((List.range n).map f) (i : Int) = f i := by
  rw [rd_at (by rw [List.length_map, List.length_range]; exact h), List.getElem_map, List.getElem_range]
def chk (p n most : Int) : Int := if n < 1 then 1 else if n > most then 13 else if (p - 1) % n = 0 then 0 else 4
theorem check_at {F : Fld} {n most : Int} (hn : I64 n) : dft_Check.f [F] n most = some (chk F.p n most) := by
  unfold dft_Check.f chk
  rw [if_neg (by simp)]
  by_cases h1 : n < 1
  · rw [if_pos h1, if_pos h1]
  rw [if_neg h1, if_neg h1]
  by_cases h2 : n > most
  · rw [if_pos h2, if_pos h2]
  rw [if_neg h2, if_neg h2, Divides_at F hn.2]
  by_cases h3 : (F.p - 1) % n = 0
  · rw [if_pos h3, decide_eq_true ⟨by omega, h3⟩]; rfl
  · rw [if_neg h3, decide_eq_false (fun h => h3 h.2)]; rfl
theorem rcheck_at {p n most : Int} (hp : 3 ≤ p) (hp' : p < 9223372036854775808) (hn : I64 n) : epicycleref11_Check.f p n most = some (chk p n most) := by
  have hn2 := hn.2
  unfold epicycleref11_Check.f chk
  by_cases h1 : n < 1
  · rw [if_pos h1, if_pos h1]
  rw [if_neg h1, if_neg h1]
  by_cases h2 : n > most
  · rw [if_pos h2, if_pos h2]
  have wn : IntKind.u64.wrap n = n := wu64_id _ (by omega) (by omega)
  have w1 : IntKind.u64.wrap (p - 1) = p - 1 := wu64_id _ (by omega) (by omega)
  rw [if_neg h2, if_neg h2, wn, w1, if_neg (by omega), tmod_pos (by omega)]
  by_cases h3 : (p - 1) % n = 0
  · rw [if_pos h3, if_pos h3]
  · rw [if_neg h3, if_neg h3]
theorem chk_0 {p n most : Int} (h : chk p n most = 0) : 1 ≤ n ∧ n ≤ most ∧ (p - 1) % n = 0 := by
  unfold chk at h
  split at h
  · omega
  split at h
  · omega
  split at h
  · rename_i h3; exact ⟨by omega, by omega, h3⟩
  · omega
theorem chk_of {p n most : Int} (h1 : 1 ≤ n) (h2 : n ≤ most) (h3 : (p - 1) % n = 0) : chk p n most = 0 := by
  unfold chk
  rw [if_neg (by omega), if_neg (by omega), if_pos h3]
def allB (p : Int) (l : List Int) : Bool := decide (∀ x ∈ l, x < p)
theorem allB_cons (p x : Int) (l : List Int) : allB p (x :: l) = (decide (x < p) && allB p l) := by
  unfold allB
  rw [Bool.eq_iff_iff]
  simp
theorem allB_nil (p : Int) : allB p [] = true := by unfold allB; simp
theorem good_l0 {F : Fld} {l : List Int} (hn : l.length ≤ 1000000) (d : Nat) : ∀ i : Nat, i + d = l.length → Ev (fun k => dft_Good.l0 k [F] l (l.length : Int) (i : Int)) (allB F.p (l.drop i)) := by
  induction d with
  | zero =>
    intro i hi
    refine stepE ⟨_, fun k => by simp only [dft_Good.l0]; rw [if_neg (by omega), if_neg (by simp)], evR (Ev.now _) ?_⟩
    rw [List.drop_eq_nil_of_le (by omega), allB_nil]
  | succ d ih =>
    intro i hi
    have hlt : i < l.length := by omega
    have G : field_Field_Good.f [F] (rd l (i : Int)) = some (decide (rd l (i : Int) < F.p)) := rfl
    have hr := rd_at hlt
    rw [List.drop_eq_getElem_cons hlt, allB_cons, ← hr]
    refine stepE ⟨_, fun k => by simp only [dft_Good.l0]; rw [if_pos (by omega), if_pos (by omega), if_pos (by omega), wrap_succ (by omega)], evB G ?_⟩
    by_cases c : rd l (i : Int) < F.p
    · rw [decide_eq_true c, Bool.true_and]
      exact evP rfl (ih (i + 1) (by omega))
    · rw [decide_eq_false c, Bool.false_and]
      exact evN (by decide) (Ev.now _)
theorem good_ev {F : Fld} {l : List Int} (hn : l.length ≤ 1000000) : Ev (fun k => dft_Good.f k [F] l) (allB F.p l) := by
  have h := good_l0 (F := F) hn l.length 0 (by omega)
  rw [List.drop_zero] at h
  exact Ev.congr (fun k => by unfold dft_Good.f; rw [if_neg (by simp)]; rfl) h
theorem rgood_l0 {p : Int} {l : List Int} (hn : l.length ≤ 1000000) (d : Nat) : ∀ i : Nat, i + d = l.length → Ev (fun k => epicycleref11_Good.l0 k p l (l.length : Int) (i : Int)) (allB p (l.drop i)) := by
  induction d with
  | zero =>
    intro i hi
    refine stepE ⟨_, fun k => by simp only [epicycleref11_Good.l0]; rw [if_neg (by omega)], evR (Ev.now _) ?_⟩
    rw [List.drop_eq_nil_of_le (by omega), allB_nil]
  | succ d ih =>
    intro i hi
    have hlt : i < l.length := by omega
    have hr := rd_at hlt
    rw [List.drop_eq_getElem_cons hlt, allB_cons, ← hr]
    refine stepE ⟨_, fun k => by simp only [epicycleref11_Good.l0]; rw [if_pos (by omega), if_pos (by omega), if_pos (by omega), wrap_succ (by omega)], ?_⟩
    by_cases c : rd l (i : Int) < p
    · rw [decide_eq_true c, Bool.true_and]
      exact evN (by omega) (ih (i + 1) (by omega))
    · rw [decide_eq_false c, Bool.false_and]
      exact evP (by omega) (Ev.now _)
theorem rgood_ev {p : Int} {l : List Int} (hn : l.length ≤ 1000000) : Ev (fun k => epicycleref11_Good.f k p l) (allB p l) := by
  have h := rgood_l0 (p := p) hn l.length 0 (by omega)
  rw [List.drop_zero] at h
  exact Ev.congr (fun k => rfl) h
theorem scale_l0 {L : List Fld} {c : Int} {T : Int → Int} {l : List Int} (hn : l.length ≤ 1000000) (hT : ∀ x ∈ l, field_Field_Times.f L c x = some (T x)) (d : Nat) : ∀ (i : Nat) (y : List Int), i + d = l.length → y.length = l.length →
    Ev (fun k => dft_Scale.l0 k L c y l (l.length : Int) (i : Int)) (y.take i ++ (l.drop i).map T) := by
  induction d with
  | zero =>
    intro i y hi hy
    exact stepE ⟨_, fun k => by simp only [dft_Scale.l0]; rw [if_neg (by omega)], evR (Ev.now _) (by rw [List.drop_eq_nil_of_le (by omega), List.map_nil, List.append_nil, List.take_of_length_le (by omega)])⟩
  | succ d ih =>
    intro i y hi hy
    have hlt : i < l.length := by omega
    have G := hT l[i] (List.getElem_mem hlt)
    have hr := rd_at hlt
    have e : (y.set i (T l[i])).take (i + 1) ++ (l.drop (i + 1)).map T = y.take i ++ (l.drop i).map T := by
      rw [take_set1 _ (by omega), List.drop_eq_getElem_cons hlt, List.map_cons, List.append_assoc]
      rfl
    have IH := ih (i + 1) (y.set i (T l[i])) (by omega) (by rw [List.length_set]; exact hy)
    rw [e] at IH
    have hy2 : (i : Int) < (y.length : Int) := by omega
    refine stepE ⟨_, fun k => by simp only [dft_Scale.l0]; rw [if_pos (by omega), if_pos (by omega), if_pos (by omega), wrap_succ (by omega), Int.toNat_natCast, hr], ?_⟩
    refine evB G ?_
    exact evP hy2 IH
theorem scale_ev {F : Fld} (hg : GoodFld F) {l : List Int} (hn : l.length ≤ 1000000) (hu : ∀ x ∈ l, U x) : Ev (fun k => dft_Scale.f k [F] l) (l.map fun x => invF F.p (l.length : Int) * x % F.p) := by
  have wn : IntKind.u64.wrap (l.length : Int) = l.length := wu64_id _ (by omega) (by omega)
  have I := field_Field_Inv.at_ (F := F) (l := []) (a1 := (l.length : Int)) ⟨by omega, by omega⟩
  have Li := field_Field_Lift.at_ (F := F) (l := []) (hg.uInv (l.length : Int))
  have S := scale_l0 (L := [F]) (c := mIn F.p (invF F.p l.length)) (T := fun x => invF F.p l.length * x % F.p) hn (fun x hx => by
    rw [field_Field_Times.at_ ⟨show U (mIn F.p (invF F.p l.length)) from hg.uE _, hu x hx⟩, mul_in hg.m]) l.length 0 (List.replicate l.length 0) (by omega) List.length_replicate
  rw [List.take_zero, List.nil_append, List.drop_zero] at S
  refine Ev.congr (fun k => rfl) (evB (by rw [wn]; exact I) (evB Li (evP (by omega) (evP (by omega) (Ev.congr (fun k => ?_) S)))))
  rw [Int.toNat_natCast]
  rfl
theorem sums_l1 {F : Fld} (hg : GoodFld F) {l : List Int} {n : Nat} (hn : l.length = n) (n1 : 1 ≤ n) (n2 : n ≤ 1024) (hu : ∀ x ∈ l, U x) {w : Int} {tab : List Int} (ht : tab.length = n) (hT : ∀ j, j < n → rd tab (j : Int) = mIn F.p (w ^ j % F.p)) (hw : ∀ a, w ^ a % F.p = w ^ (a % n) % F.p) {r : List Int} {i : Nat} (hi : i < n) (d : Nat) : ∀ (j : Nat) (y : List Int), j + d = n → y.length = n → rd y (i : Int) = dftA w (fun t => rd l (t : Int)) j i % F.p →
    Ev (fun k => dft_sums.l0 k [F] l (n : Int) tab (y.set i (dftA w (fun t => rd l (t : Int)) n i % F.p)) (n : Int) (wrap64 ((i : Int) + 1))) r →
    Ev (fun k => dft_sums.l1 k [F] l (n : Int) tab y (i : Int) ((i * j % n : Nat) : Int) (n : Int) (i : Int) l (l.length : Int) (j : Int)) r := by
  induction d with
  | zero =>
    intro j y hj hy hr E
    obtain rfl : j = n := by omega
    have e : y.set i (dftA w (fun t => rd l (t : Int)) j i % F.p) = y := by rw [← hr, rd_at (by omega), List.set_getElem_self]
    rw [e] at E
    exact stepE ⟨_, fun k => by simp only [dft_sums.l1]; rw [if_neg (by omega)], E⟩
  | succ d ih =>
    intro j y hj hy hr E
    have hjn : j < n := by omega
    have hq : i * j % n < n := Nat.mod_lt _ (by omega)
    have ut := hu _ (rd_mem (l := l) (i := j) (by omega))
    have T := field_Field_Times.at_ (F := F) (l := []) ⟨show U (mIn F.p (w ^ (i * j % n) % F.p)) from hg.uE _, ut⟩
    rw [mul_in hg.m, ← hT _ hq] at T
    have A := field_Field_Add.at_ (F := F) (l := []) ⟨show U (dftA w (fun t => rd l (t : Int)) j i % F.p) from hg.uE _, hg.uE (w ^ (i * j % n) % F.p * rd l (j : Int))⟩
    have ev : (dftA w (fun t => rd l (t : Int)) j i % F.p + w ^ (i * j % n) % F.p * rd l (j : Int) % F.p) % F.p = dftA w (fun t => rd l (t : Int)) (j + 1) i % F.p := by
      have e1 : dftA w (fun t => rd l (t : Int)) (j + 1) i = dftA w (fun t => rd l (t : Int)) j i + w ^ (i * j) * rd l (j : Int) := rfl
      rw [e1]
      exact add_cong (Int.emod_emod _ _) (by rw [Int.emod_emod, ← hw, emod_mul_l])
    rw [ev, ← hr] at A
    have em : Int.tmod (wrap64 (((i * j % n : Nat) : Int) + (i : Int))) (n : Int) = ((i * (j + 1) % n : Nat) : Int) := by
      rw [w64_id _ (by omega) (by omega), tmod_pos (by omega), Nat.mul_succ, ← Nat.mod_add_mod, Int.natCast_emod (i * j % n + i) n]
      rfl
    have IH := ih (j + 1) (y.set i (dftA w (fun t => rd l (t : Int)) (j + 1) i % F.p)) (by omega) (by rw [List.length_set]; exact hy) (rd_set _ (by omega)) (by rw [List.set_set]; exact E)
    have q0 : (0 : Int) ≤ ((i * j % n : Nat) : Int) := Int.natCast_nonneg _
    have q1 : ((i * j % n : Nat) : Int) < (tab.length : Int) := by omega
    have p1 : (j : Int) < (l.length : Int) := by omega
    have p2 : (0 : Int) ≤ (j : Int) := Int.natCast_nonneg _
    have p3 : (0 : Int) ≤ (i : Int) := Int.natCast_nonneg _
    have p4 : (i : Int) < (y.length : Int) := by omega
    have ws : wrap64 ((j : Int) + 1) = ((j + 1 : Nat) : Int) := wrap_succ (by omega)
    have n0 : ¬ (n : Int) = 0 := by omega
    refine stepE ⟨_, fun k => by simp only [dft_sums.l1]; rw [if_pos p1, if_pos p2, if_pos p1, if_pos p3, if_pos p4, if_pos q0, if_pos q1, ws, Int.toNat_natCast, em], ?_⟩
    refine evB T ?_
    refine evB A ?_
    exact evN n0 IH
theorem sums_l0 {F : Fld} (hg : GoodFld F) {l : List Int} {n : Nat} (hn : l.length = n) (n1 : 1 ≤ n) (n2 : n ≤ 1024) (hu : ∀ x ∈ l, U x) {w : Int} {tab : List Int} (ht : tab.length = n) (hT : ∀ j, j < n → rd tab (j : Int) = mIn F.p (w ^ j % F.p)) (hw : ∀ a, w ^ a % F.p = w ^ (a % n) % F.p) (d : Nat) : ∀ (i : Nat) (y : List Int), i + d = n → y.length = n → (∀ t : Nat, i ≤ t → t < n → rd y (t : Int) = 0) →
    Ev (fun k => dft_sums.l0 k [F] l (n : Int) tab y (n : Int) (i : Int)) (y.take i ++ ((List.range n).drop i).map fun i => dftA w (fun t => rd l (t : Int)) n i % F.p) := by
  induction d with
  | zero =>
    intro i y hi hy hz
    exact stepE ⟨_, fun k => by simp only [dft_sums.l0]; rw [if_neg (by omega)], evR (Ev.now _) (by rw [List.drop_eq_nil_of_le (by rw [List.length_range]; omega), List.map_nil, List.append_nil, List.take_of_length_le (by omega)])⟩
  | succ d ih =>
    intro i y hi hy hz
    have hin : i < n := by omega
    have hr : i < (List.range n).length := by rw [List.length_range]; exact hin
    have e : (y.set i (dftA w (fun t => rd l (t : Int)) n i % F.p)).take (i + 1) ++ ((List.range n).drop (i + 1)).map (fun i => dftA w (fun t => rd l (t : Int)) n i % F.p) = y.take i ++ ((List.range n).drop i).map fun i => dftA w (fun t => rd l (t : Int)) n i % F.p := by
      rw [take_set1 _ (by omega), List.drop_eq_getElem_cons hr, List.getElem_range, List.map_cons, List.append_assoc]
      rfl
    have IH := ih (i + 1) (y.set i (dftA w (fun t => rd l (t : Int)) n i % F.p)) (by omega) (by rw [List.length_set]; exact hy) (fun t h1 h2 => by rw [rd_set_ne _ (by omega)]; exact hz t (by omega) h2)
    rw [e, ← wrap_succ (by omega)] at IH
    have L1 := sums_l1 hg hn n1 n2 hu ht hT hw hin n 0 y (by omega) hy (by rw [hz i (Nat.le_refl _) hin]; exact (Int.zero_emod _).symm) IH
    rw [Nat.mul_zero, Nat.zero_mod] at L1
    refine stepE ⟨_, fun k => by simp only [dft_sums.l0]; rw [if_pos (by omega)], ?_⟩
    exact L1
theorem roots {F : Fld} (hg : GoodFld F) {n : Nat} (n1 : 1 ≤ n) (hd : (F.p - 1) % (n : Int) = 0) (inv : Bool) : Roots F n (trootI F n inv) (trootI F n (!inv)) := by
  have hlo := hg.lo
  have one := (hg.inv (hg.root_ne (n := (n : Int)) (by omega) hd)).2.1
  refine ⟨hg, n1, ?_, fun k => troot_ord hg (by omega) hd inv k, fun k => troot_ord hg (by omega) hd (!inv) k, ?_⟩
  · have := Int.le_of_dvd (show 0 < F.p - 1 by omega) (Int.dvd_of_emod_eq_zero hd)
    omega
  · cases inv with
    | false => show rootI F n * invF F.p (rootI F n) % F.p = 1; rw [Int.mul_comm]; exact one
    | true => exact one
theorem sums_ev {F : Fld} (hg : GoodFld F) {l : List Int} (n1 : 1 ≤ l.length) (n2 : l.length ≤ 1024) (hd : (F.p - 1) % (l.length : Int) = 0) (hu : ∀ x ∈ l, U x) (inv : Bool) :
    Ev (fun k => dft_sums.f k [F] l inv) ((List.range l.length).map fun i => dftA (trootI F l.length inv) (fun t => rd l (t : Int)) l.length i % F.p) := by
  have R := roots hg n1 hd inv
  have lt : ((powL F.p (trootI F l.length inv) (l.length : Int).toNat).map (mIn F.p)).length = l.length := by rw [List.length_map, powL_len, Int.toNat_natCast]
  have S := sums_l0 hg (l := l) rfl n1 n2 hu lt (fun j hj => by rw [rd_at (by omega), List.getElem_map]; congr 1; have := rd_powL (p := F.p) (w := trootI F l.length inv) (n := (l.length : Int).toNat) (i := j) (by omega); rw [rd_at (by rw [powL_len]; omega)] at this; exact this) R.expo l.length 0 (List.replicate l.length 0) (by omega) List.length_replicate (fun t _ _ => rd_rep _ _)
  rw [List.take_zero, List.nil_append, List.drop_zero] at S
  refine Ev.congr (fun k => rfl) (Ev.bind (lifted_ev hg (n := (l.length : Int)) (by omega) (by omega) hd inv) (evP (by omega) (evP (by omega) (Ev.congr (fun k => ?_) S))))
  simp only [Option.bind_some, List.length_replicate, Int.toNat_natCast]
  rfl
noncomputable def cO (F : Fld) (n : Nat) (inv : Bool) : Int := if inv = true then invF F.p (n : Int) else 1
noncomputable def runL (F : Fld) (l : List Int) (inv : Bool) : List Int := (List.range l.length).map fun i => cO F l.length inv * dftA (trootI F l.length inv) (fun t => rd l (t : Int)) l.length i % F.p
theorem runL_len (F : Fld) (l : List Int) (inv : Bool) : (runL F l inv).length = l.length := by unfold runL; rw [List.length_map, List.length_range]
theorem runL_at {F : Fld} {l : List Int} {inv : Bool} {i : Nat} (h : i < l.length) : rd (runL F l inv) (i : Int) = cO F l.length inv * dftA (trootI F l.length inv) (fun t => rd l (t : Int)) l.length i % F.p := rd_map_range h
structure FitL (F : Fld) (l : List Int) : Prop where
  pos : 1 ≤ l.length
  top : l.length ≤ 1024
  div : (F.p - 1) % (l.length : Int) = 0
  res : ∀ x ∈ l, 0 ≤ x ∧ x < F.p
theorem FitL.u {F : Fld} {l : List Int} (hg : GoodFld F) (h : FitL F l) : ∀ x ∈ l, U x := fun x hx => by
  have := h.res x hx
  have := hg.hi
  unfold U; omega
theorem FitL.all {F : Fld} {l : List Int} (h : FitL F l) : allB F.p l = true := decide_eq_true fun x hx => (h.res x hx).2
theorem runL_fit {F : Fld} {l : List Int} (hg : GoodFld F) (h : FitL F l) (inv : Bool) : FitL F (runL F l inv) := by
  have e := runL_len F l inv
  have := hg.lo
  refine ⟨by rw [e]; exact h.pos, by rw [e]; exact h.top, by rw [e]; exact h.div, fun x hx => ?_⟩
  unfold runL at hx
  obtain ⟨i, _, rfl⟩ := List.mem_map.1 hx
  exact ⟨Int.emod_nonneg _ hg.ne, Int.emod_lt_of_pos _ (by omega)⟩
theorem len_I {l : List Int} (h : l.length ≤ 1000000) : I64 (l.length : Int) := ⟨by omega, by omega⟩
theorem run_ev {F : Fld} (hg : GoodFld F) {l : List Int} (h : FitL F l) (inv : Bool) : Ev (fun k => dft_Run.f k [F] l inv) (runL F l inv, 0) := by
  have h1 := h.pos
  have h2 := h.top
  have C := check_at (F := F) (most := 1024) (len_I (l := l) (by omega))
  rw [chk_of (by omega) (by omega) h.div] at C
  have G := good_ev (F := F) (l := l) (by omega)
  rw [h.all] at G
  have S := sums_ev hg h1 h2 h.div (h.u hg) inv
  refine Ev.congr (fun k => rfl) (evB C (evP rfl (Ev.bind G (evP rfl (Ev.bind S ?_)))))
  cases inv with
  | false =>
    refine evN (by decide) (evR (Ev.now _) ?_)
    congr 1
    unfold runL
    refine List.map_congr_left fun i _ => ?_
    show _ = 1 * dftA (trootI F l.length false) (fun t => rd l (t : Int)) l.length i % F.p
    rw [Int.one_mul]
  | true =>
    have ln : ((List.range l.length).map fun i => dftA (trootI F l.length true) (fun t => rd l (t : Int)) l.length i % F.p).length = l.length := by rw [List.length_map, List.length_range]
    have Sc := scale_ev hg (l := (List.range l.length).map fun i => dftA (trootI F l.length true) (fun t => rd l (t : Int)) l.length i % F.p) (by omega) (fun x hx => by
      obtain ⟨i, _, rfl⟩ := List.mem_map.1 hx
      exact hg.uE _)
    refine evP rfl (Ev.bind Sc (evR (Ev.now _) ?_))
    congr 1
    rw [ln, List.map_map]
    unfold runL
    refine List.map_congr_left fun i _ => ?_
    show invF F.p l.length * (dftA (trootI F l.length true) (fun t => rd l (t : Int)) l.length i % F.p) % F.p = invF F.p l.length * dftA (trootI F l.length true) (fun t => rd l (t : Int)) l.length i % F.p
    rw [emod_mul_r]
end Go.Proofs.YtndkmnjbjlfeaaaGreat.D11
end
section
namespace Go.Proofs.YtndkmnjbjlfeaaaGreat.F06.XG
open Go Go.RowKit Go.Proofs.YtndkmnjbjlfeaaaGreat.XS Go.Proofs.YtndkmnjbjlfeaaaGreat.XT Go.Proofs.YtndkmnjbjlfeaaaGreat.XR Go.Proofs.YtndkmnjbjlfeaaaGreatW.PrintWords Go.Proofs.YtndkmnjbjlfeaaaGreatW.PrintLast Go.Proofs.YtndkmnjbjlfeaaaGreatW.PrintMore Go.Proofs.YtndkmnjbjlfeaaaGreat.Given Go.Proofs.YtndkmnjbjlfeaaaGreat.Given04 Go.Proofs.YtndkmnjbjlfeaaaGreat.M Go.Proofs.YtndkmnjbjlfeaaaGreat.Mont Go.Proofs.YtndkmnjbjlfeaaaGreat.XG
theorem rows_l1 {x3 : List S94} {L : List S134} {len i P G : Int} {F : List S146} {R : List S94} (hF : F.length < 8796093022208) (h3 : x3.length < 3518437208883)
    (E : Ev (fun k => epicyclelaw11_rows.l0 k (x3 ++ [⟨P, G, F.map cF⟩]) L len (wrap64 (i + 1))) R) (l : List S146) :
    ∀ j : Nat, F.drop j = l → j ≤ F.length → Ev (fun k => epicyclelaw11_rows.l1 k x3 ((F.take j).map cF) L len i F (F.length : Int) j P G F) R := by
  induction l with
  | nil =>
    intro j hd hj
    have : F.length ≤ j := by have := congrArg List.length hd; simp at this; omega
    have q : ¬ (j : Int) < (F.length : Int) := by omega
    rw [List.take_of_length_le this]
    refine Ev.step (fun k => ?_) E
    simp only [epicyclelaw11_rows.l1]
    rw [if_neg q, if_pos h3]
  | cons x l ih =>
    intro j hd hj
    obtain ⟨hx, hlt, hd'⟩ := rd60_drop hd
    have q : (j : Int) < (F.length : Int) := by omega
    have q0 : 0 ≤ (j : Int) := by omega
    have w : wrap64 ((j : Int) + 1) = ((j + 1 : Nat) : Int) := by rw [w64_id _ (by omega) (by omega)]; omega
    have ql : ((F.take j).map cF).length < 8796093022208 := by simp; omega
    have IH := ih (j + 1) hd' (by omega)
    have e : (F.take (j + 1)).map cF = (F.take j).map cF ++ [⟨x.f0, x.f1⟩] := by
      have hg : F[j] = x := by
        rw [List.drop_eq_getElem_cons hlt] at hd
        injection hd
      rw [List.take_succ_eq_append_getElem hlt, hg, List.map_append]
      rfl
    rw [e] at IH
    refine Ev.step (fun k => ?_) IH
    simp only [epicyclelaw11_rows.l1]
    rw [if_pos q, if_pos q0, if_pos q, if_pos ql, hx, w]
theorem rows_l0 {L : List S134} (hL : okLen L) (l : List S134) : ∀ i : Nat, L.drop i = l → i ≤ L.length → Ev (fun k => epicyclelaw11_rows.l0 k ((L.take i).map cE) L (L.length : Int) i) (L.map cE) := by
  have h1 := hL.1
  induction l with
  | nil =>
    intro i hd hi
    have : L.length ≤ i := by have := congrArg List.length hd; simp at this; omega
    have q : ¬ (i : Int) < (L.length : Int) := by omega
    rw [List.take_of_length_le this]
    refine Ev.step (fun k => ?_) (Ev.now _)
    simp only [epicyclelaw11_rows.l0]
    rw [if_neg q]
  | cons x l ih =>
    intro i hd hi
    obtain ⟨hx, hlt, hd'⟩ := rd46_drop hd
    have hxm : x ∈ L := List.mem_of_mem_drop (show x ∈ L.drop i by rw [hd]; exact List.mem_cons_self)
    have q : (i : Int) < (L.length : Int) := by omega
    have q0 : 0 ≤ (i : Int) := by omega
    have w : wrap64 ((i : Int) + 1) = ((i + 1 : Nat) : Int) := by rw [w64_id _ (by omega) (by omega)]; omega
    have ql : ((L.take i).map cE).length < 3518437208883 := by simp; omega
    have IH := ih (i + 1) hd' (by omega)
    have e : (L.take (i + 1)).map cE = (L.take i).map cE ++ [⟨x.f0, x.f1, x.f2.map cF⟩] := by
      have hg : L[i] = x := by
        rw [List.drop_eq_getElem_cons hlt] at hd
        injection hd
      rw [List.take_succ_eq_append_getElem hlt, hg, List.map_append]
      rfl
    rw [e, ← w] at IH
    have L1 := rows_l1 (L := L) (len := (L.length : Int)) (i := (i : Int)) (hL.2 x hxm) ql IH x.f2 0 rfl (Nat.zero_le _)
    refine Ev.step (fun k => ?_) L1
    simp only [epicyclelaw11_rows.l0]
    rw [if_pos q, if_pos q0, if_pos q, hx]
    rfl
theorem rows_ev {L : List S134} (hL : okLen L) : Ev (fun k => epicyclelaw11_rows.f k L) (L.map cE) := by
  refine Ev.congr (fun k => ?_) (rows_l0 hL L 0 rfl (Nat.zero_le _))
  unfold epicyclelaw11_rows.f
  rfl
end Go.Proofs.YtndkmnjbjlfeaaaGreat.F06.XG
end
section
namespace Go.Proofs.YtndkmnjbjlfeaaaGreat.F06.XG
open Go Go.RowKit Go.Proofs.YtndkmnjbjlfeaaaGreatW.PrintWords Go.Proofs.YtndkmnjbjlfeaaaGreatW.PrintLast Go.Proofs.YtndkmnjbjlfeaaaGreatW.PrintMore Go.Proofs.YtndkmnjbjlfeaaaGreat.Given Go.Proofs.YtndkmnjbjlfeaaaGreat.M Go.Proofs.YtndkmnjbjlfeaaaGreat.Mont Go.Proofs.YtndkmnjbjlfeaaaGreat.XS Go.Proofs.YtndkmnjbjlfeaaaGreat.XT Go.Proofs.YtndkmnjbjlfeaaaGreat.XR Go.Proofs.YtndkmnjbjlfeaaaGreat.Num Go.Proofs.YtndkmnjbjlfeaaaGreat.XK Go.Proofs.YtndkmnjbjlfeaaaGreat.XG
theorem made_ev {L : List RE} (hL : okRow L) (kind K p : Int) : Ev (fun k => epicyclelaw11_made.f k kind K p L) ([], 0, 0) ∨ ∃ F, Ev (fun k => epicyclelaw11_made.f k kind K p L) ([F], F.p, F.g) ∧ GoodFld F := by
  by_cases h0 : kind = 0
  · subst h0
    by_cases hp : OddP p
    · obtain ⟨F, E, G, e, hg⟩ := small_odd hp
      refine .inr ⟨F, ?_, hg⟩
      rw [e]
      exact Ev.congr (fun k => rfl) (Ev.bind ((of_small (L := L) (K := K)).1 hp _ G) (evP rfl (Ev.bind E (Ev.now _))))
    · exact .inl (Ev.congr (fun k => rfl) (Ev.bind ((of_small (L := L) (K := K)).2 hp) (evP rfl (Ev.bind (small_not hp) (Ev.now _)))))
  by_cases h1 : kind = 1
  · subst h1
    by_cases hK : 0 ≤ K ∧ K ≤ 5
    · obtain ⟨F, E, e, hg⟩ := known_ev hK.1 hK.2
      refine .inr ⟨F, ?_, hg⟩
      have O := (of_known (L := L) (p := p)).1 hK
      rw [e] at O
      exact Ev.congr (fun k => rfl) (Ev.bind O (evN h0 (evP rfl (Ev.bind E (Ev.now _)))))
    · exact .inl (Ev.congr (fun k => rfl) (Ev.bind ((of_known (L := L) (p := p)).2 hK) (evN h0 (evP rfl (Ev.bind (known_not hK) (Ev.now _))))))
  have O := ofNew_ev hL (K := K) (p := p) h0 h1
  have R := rows_ev hL.1
  have E := new_ev (R := L.map cE) (by rw [map_tri]; exact hL.2) p
  rcases new_of hL p with ⟨e, _, hn, e', _, ho, _⟩ | ⟨F, hn, ho, hg, hl⟩
  · rw [hn] at E
    rw [ho] at O
    refine .inl (Ev.congr (fun k => rfl) (Ev.bind O (evN h0 (evN h1 ?_))))
    by_cases hl : (L.length : Int) ≤ 40
    · exact evP hl (Ev.bind R (Ev.bind E (Ev.now _)))
    · exact evN hl (Ev.now _)
  · rw [hn] at E
    rw [ho] at O
    exact .inr ⟨F, Ev.congr (fun k => rfl) (Ev.bind O (evN h0 (evN h1 (evP hl (Ev.bind R (Ev.bind E (Ev.now _))))))), hg⟩
end Go.Proofs.YtndkmnjbjlfeaaaGreat.F06.XG
end
section
namespace Go.Proofs.YtndkmnjbjlfeaaaGreat.F06.XG
open Go Go.RowKit Go.Proofs.YtndkmnjbjlfeaaaGreatW.PrintWords Go.Proofs.YtndkmnjbjlfeaaaGreatW.PrintLast Go.Proofs.YtndkmnjbjlfeaaaGreatW.PrintMore Go.Proofs.YtndkmnjbjlfeaaaGreat.Given Go.Proofs.YtndkmnjbjlfeaaaGreat.M Go.Proofs.YtndkmnjbjlfeaaaGreat.Mont Go.Proofs.YtndkmnjbjlfeaaaGreat.XS Go.Proofs.YtndkmnjbjlfeaaaGreat.XT Go.Proofs.YtndkmnjbjlfeaaaGreat.XR Go.Proofs.YtndkmnjbjlfeaaaGreat.Num Go.Proofs.YtndkmnjbjlfeaaaGreat.XK Go.Proofs.YtndkmnjbjlfeaaaGreat.T10 Go.Proofs.YtndkmnjbjlfeaaaGreat.D11 Go.Proofs.YtndkmnjbjlfeaaaGreat.XW Go.Proofs.YtndkmnjbjlfeaaaGreat.XG
theorem same_l0 {l : List Int} (hn : l.length ≤ 1000000) (d : Nat) : ∀ i : Nat, i + d = l.length → Ev (fun k => epicyclelaw11_same.l0 k l l (l.length : Int) (i : Int)) true := by
  induction d with
  | zero =>
    intro i hi
    exact stepE ⟨_, fun k => by simp only [epicyclelaw11_same.l0]; rw [if_neg (by omega)], Ev.now _⟩
  | succ d ih =>
    intro i hi
    have p1 : (i : Int) < (l.length : Int) := by omega
    have p2 : (0 : Int) ≤ (i : Int) := Int.natCast_nonneg _
    exact stepE ⟨_, fun k => by simp only [epicyclelaw11_same.l0]; rw [if_pos p1, if_pos p2, if_pos p1, if_pos p1, if_pos trivial, wrap_succ (by omega)], ih (i + 1) (by omega)⟩
theorem same_ev {l : List Int} (hn : l.length ≤ 1000000) : Ev (fun k => epicyclelaw11_same.f k l l) true := by
  have h := same_l0 hn l.length 0 (by omega)
  exact Ev.congr (fun k => by unfold epicyclelaw11_same.f; rw [if_pos rfl]; rfl) h
end Go.Proofs.YtndkmnjbjlfeaaaGreat.F06.XG
end
section
namespace Go.Proofs.YtndkmnjbjlfeaaaGreat.XG
open Go.RowKit Go.Proofs.YtndkmnjbjlfeaaaGreat.Given Go.Proofs.YtndkmnjbjlfeaaaGreat.Row05 Go.Proofs.YtndkmnjbjlfeaaaGreat.XS Go.Proofs.YtndkmnjbjlfeaaaGreat.XT Go.Proofs.YtndkmnjbjlfeaaaGreat.XR Go.Proofs.YtndkmnjbjlfeaaaGreat.F06 Go.Proofs.YtndkmnjbjlfeaaaGreat.XK Go.Proofs.YtndkmnjbjlfeaaaGreat.XW Go.Proofs.YtndkmnjbjlfeaaaGreatW.PrintWords Go.Proofs.YtndkmnjbjlfeaaaGreatW.PrintLast Go.Proofs.YtndkmnjbjlfeaaaGreatW.PrintMore
attribute [local go_sem] max2_int min2_int max_two min_two max_three min_three max_four min_four   -- for this text's walks alone
set_option linter.unusedVariables false
set_option linter.unusedSimpArgs false
end Go.Proofs.YtndkmnjbjlfeaaaGreat.XG
end
section
namespace Go.Proofs.YtndkmnjbjlfeaaaGreat.XG
open Go.RowKit Go.Proofs.YtndkmnjbjlfeaaaGreat.Given Go.Proofs.YtndkmnjbjlfeaaaGreat.Row05 Go.Proofs.YtndkmnjbjlfeaaaGreat.XS Go.Proofs.YtndkmnjbjlfeaaaGreat.XT Go.Proofs.YtndkmnjbjlfeaaaGreat.XR Go.Proofs.YtndkmnjbjlfeaaaGreat.F06 Go.Proofs.YtndkmnjbjlfeaaaGreat.XK Go.Proofs.YtndkmnjbjlfeaaaGreat.XW Go.Proofs.YtndkmnjbjlfeaaaGreatW.PrintWords Go.Proofs.YtndkmnjbjlfeaaaGreatW.PrintLast Go.Proofs.YtndkmnjbjlfeaaaGreatW.PrintMore
attribute [local go_sem] max2_int min2_int max_two min_two max_three min_three max_four min_four   -- for this text's walks alone
set_option linter.unusedVariables false
set_option linter.unusedSimpArgs false
noncomputable def epicyclelaw11_fit.j0 : Nat → List (Fld) → Int → Bool → Option ((List (Fld)) × Int × Bool)
 | 0, _, _, _ => none
 | k + 1, x9, x10, x39 => if x39 = true then (some (x9, x10, false)) else (some (x9, x10, true))
noncomputable def epicyclelaw11_fit.f (k : Nat) (a0_0 : Int) (a0_1 : Int) (a0_2 : Int) (l0_3 : List (S134)) (l1 : List Int) (a2 : Int) : Option ((List (Fld)) × Int × Bool) := (epicyclelaw11_made.f k a0_0 a0_1 a0_2 l0_3).bind fun bt253 => (if bt253.2.1 = 0 then (epicyclelaw11_fit.j0 k bt253.1 bt253.2.1 true) else (if (l1.length : Int) > a2 then (epicyclelaw11_fit.j0 k bt253.1 bt253.2.1 true) else ((epicycleref11_Check.f bt253.2.1 (l1.length : Int) a2).bind fun t258 => (if t258 = 0 then ((epicycleref11_Good.f k bt253.2.1 l1).bind fun t259 => (epicyclelaw11_fit.j0 k bt253.1 bt253.2.1 (!t259))) else (epicyclelaw11_fit.j0 k bt253.1 bt253.2.1 true)))))
set_option maxHeartbeats 8000000 in
set_option maxRecDepth 100000 in
theorem epicyclelaw11_fit.calls (k : Nat) (a0_0 : Int) (a0_1 : Int) (a0_2 : Int) (A0_3 : Option Addr) (c0_3 : Nat) (l0_3 : List (S134)) (A1 : Option Addr) (c1 : Nat) (l1 : List Int) (a2 : Int) (r1 : List (Fld)) (r2 : Int) (r3 : Bool) (w : World) (hr0_3 : Kd.C k134 w A0_3 l0_3.length l0_3) (hc0_3 : l0_3.length ≤ c0_3) (hr1 : Kd.C (Kd.int .u64) w A1 l1.length l1) (hc1 : l1.length ≤ c1) (h : epicyclelaw11_fit.f k a0_0 a0_1 a0_2 l0_3 l1 a2 = some (r1, r2, r3)) :
  Calls Tryz.prog 27 #[.agg #[.int .i64 a0_0, .int .i64 a0_1, .int .u64 a0_2, .slice A0_3 l0_3.length c0_3], .slice A1 l1.length c1, .int .i64 a2] w fun e w' => ∃ v0_ : Value, e = .returned (.tuple #[toPtr v0_, .int .u64 r2, .bool r3]) ∧ Kd.R kFld 97 w' w.heap.size (fun _ => True) v0_ r1 ∧ Below w.heap.size w w' := by
 have hu25 := Tryz.underlying25
 have HR0_3 := Aside0.mk hr0_3
 have HC0_3 := Aside0.mk hc0_3
 clear hr0_3 hc0_3
 have HR1 := Aside0.mk hr1
 have HC1 := Aside0.mk hc1
 clear hr1 hc1
 have HB := Aside0.mk (Below.refl w.heap.size w)
 have H := h; unfold epicyclelaw11_fit.f at H
 clear h
 replace H := Option.bind_eq_some_iff.mp H
 obtain ⟨⟨t253, t256, t257⟩, A40, H⟩ := H
 (try dsimp only at H)
 have A4 := Aside0.mk A40
 clear A40
 have HC5 := Aside0.mk H
 clear H
 go_enter Tryz.func27, Tryz.ntmps27
 go_upto_region 2 with (first | ((with_reducible refine gate_dst (N := 3) rfl ?_); (try (refine gate_guard (by rfl) ?_; dsimp only)); refine box_event ?hg (N := 3) ?hd (cs := #[.int .i64 a0_0, .int .i64 a0_1, .int .u64 a0_2, .slice A0_3 l0_3.length c0_3]) (t := 25) ?hr ?_; (case hd => rfl); (case hg => rfl); (case hr => first | (go_simp; done) | (go_simp; rfl)); intro gb252 hg w6 hbox hb; have n0_ := Aside0.mk (below_step bel_ hb); have n1_ := Aside0.mk (hbox); have n2_ := Aside0.mk ((by rw [hg]; exact (below_size bel_) : w.heap.size ≤ gb252)); have n3_ := Aside0.mk ((by rw [hg]; exact (below_size bel_) : w.heap.size ≤ gb252)); clear HB; have HB := n0_; have BK252 := n1_; have GW252 := n2_; have GE252 := n3_; clear n0_ n1_ n2_ n3_; clear hb hbox hg; have hcz7_0 : w6.cell? ⟨gb252, 0, none⟩ = some (.int .i64 a0_0) := (blk_cell BK252.out 0).trans rfl; have hcz7_1 : w6.cell? ⟨gb252, 1, none⟩ = some (.int .i64 a0_1) := (blk_cell BK252.out 1).trans rfl; have hcz7_2 : w6.cell? ⟨gb252, 2, none⟩ = some (.int .u64 a0_2) := (blk_cell BK252.out 2).trans rfl; have hcz7_3 : w6.cell? ⟨gb252, 3, none⟩ = some (.slice A0_3 l0_3.length c0_3) := (blk_cell BK252.out 3).trans rfl; have hfz7_0 := blk_frozen BK252.out 0; have hfz7_1 := blk_frozen BK252.out 1; have hfz7_2 := blk_frozen BK252.out 2; have hfz7_3 := blk_frozen BK252.out 3) | ((with_reducible refine gate_callee (f := 17) rfl ?_); refine goesL_ (some 14) rfl rfl Tryz.func17 (by kernel_rfl) rfl #[.agg #[.int .i64 a0_0, .int .i64 a0_1, .int .u64 a0_2, .slice A0_3 l0_3.length c0_3]] rfl (by (try simp only [List.map_toArray, List.map_cons, List.map_nil]); first | done | rfl | (simp only [List.length_drop, List.length_take]; rfl)) ?_; (with_reducible refine (epicyclelaw11_made.calls k a0_0 a0_1 a0_2 _ _ l0_3 t253 t256 t257 _ ?side1 ?side2 A4.out).mono ?_); (case side1 => repeat (first | exact (Kd.C_below HR0_3.out HB.out) | (with_reducible refine Kd.C_alloc ?_ _) | (with_reducible refine Kd.C_drewN ?_ _) | (with_reducible refine Kd.C_drew ?_))); (case side2 => exact HC0_3.out); rintro e w8 ⟨v254, rfl, ho0, hb⟩; refine ⟨_, rfl, ?_⟩; have n0_ := Aside0.mk (Kd.R_lower ho0 (below_size bel_)); have n1_ := Aside0.mk (blk_below (g := gb252) (o := .cells #[.int .i64 a0_0, .int .i64 a0_1, .int .u64 a0_2, .slice A0_3 l0_3.length c0_3] 25 (0, 0)) (by (with_reducible repeat (first | refine blk_drewN ?_ _ | refine blk_drew ?_ | refine blk_alloc ?_ _)); exact BK252.out) hb); have n2_ := Aside0.mk (below_step bel_ hb); clear BK252; clear HB; have HO255 := n0_; have BK252 := n1_; have HB := n2_; clear n0_ n1_ n2_; (try clear hb); (try clear hb2); (try clear hk); (try clear hi); (try clear ho0)))
 (try simp only [Act.put, List.setIfInBounds_toArray, List.set_cons_zero, List.set_cons_succ])
 go_cut [39] (fun v39 wc => ∃ (kq : Nat) (x39_4 : Bool), v39 = .bool x39_4 ∧ Aside0 (epicyclelaw11_fit.j0 kq t253 t256 x39_4 = some (r1, r2, r3)) ∧ Aside0 (kq ≤ k) ∧ Aside0 (Kd.R kFld 97 wc w.heap.size (fun _ => True) v254 t253) ∧ Aside0 (wc.heap[gb252]? = some (.cells #[.int .i64 a0_0, .int .i64 a0_1, .int .u64 a0_2, (.slice A0_3 l0_3.length c0_3)] 25 (0, 0))) ∧ Aside0 (Below w.heap.size w wc))
 case first =>
  have H := HC5.out
  clear HC5
  by_cases c9 : t256 = 0
  ·rw [if_pos c9] at H
   have c9b0 := beq_iff_eq.mpr c9
   have c9b1 := bne_eq_false_iff_eq.mpr c9
   clear c9
   (first | rw [c9b0] | (simp only [i64_w, i32_w]; rw [c9b0]) | skip)
   have H' := Aside0.mk H
   clear H
   go_wp2
   go_meet
   case rel => exact ⟨_, (true), (by first | rfl | (simp; done) | (simp [*]; done)), H', ⟨by first | omega | exact Nat.le_refl _⟩, ⟨by (with_reducible repeat (first | apply Kd.R_alloc | apply Kd.R_drewN | apply Kd.R_drew)); exact HO255.out⟩, ⟨by (with_reducible repeat (first | refine blk_drewN ?_ _ | refine blk_drew ?_ | refine blk_alloc ?_ _)); exact BK252.out⟩, ⟨bel_⟩⟩
  ·rw [if_neg c9] at H
   have c9b0 := beq_eq_false_iff_ne.mpr c9
   have c9b1 := bne_iff_ne.mpr c9
   (first | rw [c9b0] | (simp only [i64_w, i32_w]; rw [c9b0]) | skip)
   by_cases c10 : (l1.length : Int) > a2
   ·rw [if_pos c10] at H
    have c10b0 := decide_eq_true c10
    clear c10
    have H' := Aside0.mk H
    clear H
    go_wp2
    go_meet
    case rel => exact ⟨_, (true), (by first | rfl | (simp; done) | (simp [*]; done)), H', ⟨by first | omega | exact Nat.le_refl _⟩, ⟨by (with_reducible repeat (first | apply Kd.R_alloc | apply Kd.R_drewN | apply Kd.R_drew)); exact HO255.out⟩, ⟨by (with_reducible repeat (first | refine blk_drewN ?_ _ | refine blk_drew ?_ | refine blk_alloc ?_ _)); exact BK252.out⟩, ⟨bel_⟩⟩
   ·rw [if_neg c10] at H
    have c10b0 := decide_eq_false c10
    clear c10
    replace H := Option.bind_eq_some_iff.mp H
    obtain ⟨t258, A110, H⟩ := H
    (try dsimp only at H)
    have A11 := Aside0.mk A110
    clear A110
    by_cases c12 : t258 = 0
    ·rw [if_pos c12] at H
     have c12b0 := beq_iff_eq.mpr c12
     have c12b1 := bne_eq_false_iff_eq.mpr c12
     clear c12
     replace H := Option.bind_eq_some_iff.mp H
     obtain ⟨t259, A130, H⟩ := H
     (try dsimp only at H)
     have A13 := Aside0.mk A130
     clear A130
     have H' := Aside0.mk H
     clear H
     go_wp2_with (first | (go_at_call 20; (with_reducible refine (epicycleref11_Check.calls t256 (l1.length : Int) a2 t258 _ A11.out).mono ?_); rintro e w' ⟨rfl, ⟨nd, rfl⟩⟩) | (go_at_call 21; (with_reducible refine (epicycleref11_Good.calls k t256 _ _ l1 t259 _ ?side1 ?side2 A13.out).mono ?_); (case side1 => repeat (first | exact (Kd.C_below HR1.out bel_) | (with_reducible refine Kd.C_alloc ?_ _) | (with_reducible refine Kd.C_drewN ?_ _) | (with_reducible refine Kd.C_drew ?_))); (case side2 => exact HC1.out); rintro e w' ⟨rfl, ⟨nd, rfl⟩⟩))
     go_meet
     case rel => exact ⟨_, (!t259), (by first | rfl | (simp; done) | (simp [*]; done)), H', ⟨by first | omega | exact Nat.le_refl _⟩, ⟨by (with_reducible repeat (first | apply Kd.R_alloc | apply Kd.R_drewN | apply Kd.R_drew)); exact HO255.out⟩, ⟨by (with_reducible repeat (first | refine blk_drewN ?_ _ | refine blk_drew ?_ | refine blk_alloc ?_ _)); exact BK252.out⟩, ⟨bel_⟩⟩
    ·rw [if_neg c12] at H
     have c12b0 := beq_eq_false_iff_ne.mpr c12
     have c12b1 := bne_iff_ne.mpr c12
     have H' := Aside0.mk H
     clear H
     go_wp2_with (first | (go_at_call 20; (with_reducible refine (epicycleref11_Check.calls t256 (l1.length : Int) a2 t258 _ A11.out).mono ?_); rintro e w' ⟨rfl, ⟨nd, rfl⟩⟩))
     go_meet
     case rel => exact ⟨_, (true), (by first | rfl | (simp; done) | (simp [*]; done)), H', ⟨by first | omega | exact Nat.le_refl _⟩, ⟨by (with_reducible repeat (first | apply Kd.R_alloc | apply Kd.R_drewN | apply Kd.R_drew)); exact HO255.out⟩, ⟨by (with_reducible repeat (first | refine blk_drewN ?_ _ | refine blk_drew ?_ | refine blk_alloc ?_ _)); exact BK252.out⟩, ⟨bel_⟩⟩
 case rest =>
  clear HC5
  try clear c1
  try clear c2
  try clear p2
  try clear c9
  try clear c9b0
  try clear c9b1
  try clear c10
  try clear c10b0
  try clear c12
  try clear c12b0
  try clear c12b1
  try clear hcz7_0
  try clear hcz7_1
  try clear hcz7_2
  try clear hcz7_3
  try clear hfz7_0
  try clear hfz7_1
  try clear hfz7_2
  try clear hfz7_3
  obtain ⟨kq, x39_4, rfl, HA, HJ4, HO_9, BK252, HB⟩ := hcut
  cases kq with
  | zero => exact absurd HA.out (by simp [epicyclelaw11_fit.j0])
  | succ kj4 =>
   have H := HA.out
   clear HA
   simp only [epicyclelaw11_fit.j0] at H
   by_cases c14 : x39_4 = true
   ·subst c14
    have H1 := H; rw [if_pos rfl] at H1
    clear H
    have H := H1
    clear H1
    simp only [Option.some.injEq, Prod.mk.injEq] at H
    obtain ⟨rfl, rfl, rfl⟩ := H
    go_wp2
    go_ret3
    exact ⟨_, by first | rfl | (simp [errW_none, errW_some] <;> rfl) | (simp [*, errW_none, errW_some] <;> rfl), by (with_reducible repeat (first | apply Kd.R_alloc | apply Kd.R_drewN | apply Kd.R_drew)); exact HO_9.out, bel_⟩
   ·replace c14 := Bool.eq_false_iff.mpr c14
    subst c14
    have H1 := H; rw [if_neg (show ¬ (false = true) by decide)] at H1
    clear H
    have H := H1
    clear H1
    simp only [Option.some.injEq, Prod.mk.injEq] at H
    obtain ⟨rfl, rfl, rfl⟩ := H
    go_wp2
    go_ret3
    exact ⟨_, by first | rfl | (simp [errW_none, errW_some] <;> rfl) | (simp [*, errW_none, errW_some] <;> rfl), by (with_reducible repeat (first | apply Kd.R_alloc | apply Kd.R_drewN | apply Kd.R_drew)); exact HO_9.out, bel_⟩
end Go.Proofs.YtndkmnjbjlfeaaaGreat.XG
end
section
namespace Go.Proofs.YtndkmnjbjlfeaaaGreat.XG
open Go.RowKit Go.Proofs.YtndkmnjbjlfeaaaGreat.Given Go.Proofs.YtndkmnjbjlfeaaaGreat.Row05 Go.Proofs.YtndkmnjbjlfeaaaGreat.XS Go.Proofs.YtndkmnjbjlfeaaaGreat.XT Go.Proofs.YtndkmnjbjlfeaaaGreat.XR Go.Proofs.YtndkmnjbjlfeaaaGreat.F06 Go.Proofs.YtndkmnjbjlfeaaaGreat.XK Go.Proofs.YtndkmnjbjlfeaaaGreat.XW Go.Proofs.YtndkmnjbjlfeaaaGreatW.PrintWords Go.Proofs.YtndkmnjbjlfeaaaGreatW.PrintLast Go.Proofs.YtndkmnjbjlfeaaaGreatW.PrintMore
attribute [local go_sem] max2_int min2_int max_two min_two max_three min_three max_four min_four   -- for this text's walks alone
set_option linter.unusedVariables false
set_option linter.unusedSimpArgs false
end Go.Proofs.YtndkmnjbjlfeaaaGreat.XG
end
section
namespace Go.Proofs.YtndkmnjbjlfeaaaGreat.XG
open Go.RowKit Go.Proofs.YtndkmnjbjlfeaaaGreat.Given Go.Proofs.YtndkmnjbjlfeaaaGreat.Row05 Go.Proofs.YtndkmnjbjlfeaaaGreat.XS Go.Proofs.YtndkmnjbjlfeaaaGreat.XT Go.Proofs.YtndkmnjbjlfeaaaGreat.XR Go.Proofs.YtndkmnjbjlfeaaaGreat.F06 Go.Proofs.YtndkmnjbjlfeaaaGreat.XK Go.Proofs.YtndkmnjbjlfeaaaGreat.XW Go.Proofs.YtndkmnjbjlfeaaaGreatW.PrintWords Go.Proofs.YtndkmnjbjlfeaaaGreatW.PrintLast Go.Proofs.YtndkmnjbjlfeaaaGreatW.PrintMore
attribute [local go_sem] max2_int min2_int max_two min_two max_three min_three max_four min_four   -- for this text's walks alone
set_option linter.unusedVariables false
set_option linter.unusedSimpArgs false
end Go.Proofs.YtndkmnjbjlfeaaaGreat.XG
end
section
namespace Go.Proofs.YtndkmnjbjlfeaaaGreat.XG
open Go.RowKit Go.Proofs.YtndkmnjbjlfeaaaGreat.Given Go.Proofs.YtndkmnjbjlfeaaaGreat.Row05 Go.Proofs.YtndkmnjbjlfeaaaGreat.XS Go.Proofs.YtndkmnjbjlfeaaaGreat.XT Go.Proofs.YtndkmnjbjlfeaaaGreat.XR Go.Proofs.YtndkmnjbjlfeaaaGreat.F06 Go.Proofs.YtndkmnjbjlfeaaaGreat.XK Go.Proofs.YtndkmnjbjlfeaaaGreat.XW Go.Proofs.YtndkmnjbjlfeaaaGreatW.PrintWords Go.Proofs.YtndkmnjbjlfeaaaGreatW.PrintLast Go.Proofs.YtndkmnjbjlfeaaaGreatW.PrintMore
attribute [local go_sem] max2_int min2_int max_two min_two max_three min_three max_four min_four   -- for this text's walks alone
set_option linter.unusedVariables false
set_option linter.unusedSimpArgs false
end Go.Proofs.YtndkmnjbjlfeaaaGreat.XG
end
section
namespace Go.Proofs.YtndkmnjbjlfeaaaGreat.XG
open Go.RowKit Go.Proofs.YtndkmnjbjlfeaaaGreat.Given Go.Proofs.YtndkmnjbjlfeaaaGreat.Row05 Go.Proofs.YtndkmnjbjlfeaaaGreat.XS Go.Proofs.YtndkmnjbjlfeaaaGreat.XT Go.Proofs.YtndkmnjbjlfeaaaGreat.XR Go.Proofs.YtndkmnjbjlfeaaaGreat.F06 Go.Proofs.YtndkmnjbjlfeaaaGreat.XK Go.Proofs.YtndkmnjbjlfeaaaGreat.XW Go.Proofs.YtndkmnjbjlfeaaaGreatW.PrintWords Go.Proofs.YtndkmnjbjlfeaaaGreatW.PrintLast Go.Proofs.YtndkmnjbjlfeaaaGreatW.PrintMore
attribute [local go_sem] max2_int min2_int max_two min_two max_three min_three max_four min_four   -- for this text's walks alone
set_option linter.unusedVariables false
set_option linter.unusedSimpArgs false
end Go.Proofs.YtndkmnjbjlfeaaaGreat.XG
end
