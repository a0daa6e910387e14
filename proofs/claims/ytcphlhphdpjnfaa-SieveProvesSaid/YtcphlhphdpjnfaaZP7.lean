/- Parts of this claim's texts, packed by wip/tools/prune.py: what the proof does not reach is left out. -/
import Derived.Test.YtcphlhphdpjnfaaZP6
section
namespace Go.Proofs.Ytcphlhphdpjnfaa.XQ
open Go.RowKit Go.Proofs.Ytcphlhphdpjnfaa.Given Go.Proofs.Ytcphlhphdpjnfaa.GivenS Go.Proofs.YtcphlhphdpjnfaaW.PrintWords Go.Proofs.YtcphlhphdpjnfaaW.PrintLast Go.Proofs.YtcphlhphdpjnfaaW.PrintMore
attribute [local go_sem] max2_int min2_int max_two min_two max_three min_three max_four min_four   -- for this text's walks alone
set_option linter.unusedVariables false
set_option linter.unusedSimpArgs false
mutual
def slices_pdqsortOrdered_uint64.l0 : Nat → List Int → Int → Int → Int → Bool → Bool → Option (List Int)
  | 0, _, _, _, _, _, _ => none
  | k + 1, x0, x1, x2, x3, x8, x9 => if (wrap64 (x2 - x1)) ≤ 12 then ((slices_insertionSortOrdered_uint64.f k x0 x1 x2).bind fun t110 => (some t110)) else (if x3 = 0 then ((slices_heapSortOrdered_uint64.f x0 x1 x2).bind fun _ => (some x0)) else (if x8 = true then (slices_pdqsortOrdered_uint64.j1 k x0 x1 x2 x3 x8 x9 (wrap64 (x2 - x1))) else ((slices_breakPatternsOrdered_uint64.f x0 x1 x2).bind fun _ => (slices_pdqsortOrdered_uint64.j1 k x0 x1 x2 (wrap64 (x3 - 1)) x8 x9 (wrap64 (x2 - x1))))))
def slices_pdqsortOrdered_uint64.j1 : Nat → List Int → Int → Int → Int → Bool → Bool → Int → Option (List Int)
  | 0, _, _, _, _, _, _, _ => none
  | k + 1, x0, x1, x2, x3, x8, x9, x10 => (slices_choosePivotOrdered_uint64.f x0 x1 x2).bind fun bt111 => (if bt111.2 = 2 then ((slices_reverseRangeOrdered_uint64.f x0 x1 x2).bind fun _ => (slices_pdqsortOrdered_uint64.j2 k x0 x1 x2 x3 x8 x9 x10 (wrap64 ((wrap64 (x2 - 1)) - (wrap64 (bt111.1 - x1)))) 1)) else (slices_pdqsortOrdered_uint64.j2 k x0 x1 x2 x3 x8 x9 x10 bt111.1 bt111.2))
def slices_pdqsortOrdered_uint64.j2 : Nat → List Int → Int → Int → Int → Bool → Bool → Int → Int → Int → Option (List Int)
  | 0, _, _, _, _, _, _, _, _, _ => none
  | k + 1, x0, x1, x2, x3, x8, x9, x10, x11, x12 => if x8 = true then (if x9 = true then (slices_pdqsortOrdered_uint64.j3 k x0 x1 x2 x3 x8 x9 x10 x11 (x12 == 1)) else (slices_pdqsortOrdered_uint64.j3 k x0 x1 x2 x3 x8 x9 x10 x11 false)) else (slices_pdqsortOrdered_uint64.j3 k x0 x1 x2 x3 x8 x9 x10 x11 false)
def slices_pdqsortOrdered_uint64.j3 : Nat → List Int → Int → Int → Int → Bool → Bool → Int → Int → Bool → Option (List Int)
  | 0, _, _, _, _, _, _, _, _, _ => none
  | k + 1, x0, x1, x2, x3, x8, x9, x10, x11, x68 => if x68 = true then ((slices_partialInsertionSortOrdered_uint64.f x0 x1 x2).bind fun t113 => (if t113 = true then (some x0) else (slices_pdqsortOrdered_uint64.j4 k x0 x1 x2 x3 x8 x9 x10 x11))) else (slices_pdqsortOrdered_uint64.j4 k x0 x1 x2 x3 x8 x9 x10 x11)
def slices_pdqsortOrdered_uint64.j4 : Nat → List Int → Int → Int → Int → Bool → Bool → Int → Int → Option (List Int)
  | 0, _, _, _, _, _, _, _, _ => none
  | k + 1, x0, x1, x2, x3, x8, x9, x10, x11 => if x1 > 0 then (if 0 ≤ (wrap64 (x1 - 1)) then (if (wrap64 (x1 - 1)) < (x0.length : Int) then (if 0 ≤ x11 then (if x11 < (x0.length : Int) then ((cmp_Less_uint64.f (rd x0 (wrap64 (x1 - 1))) (rd x0 x11)).bind fun t116 => (slices_pdqsortOrdered_uint64.j5 k x0 x1 x2 x3 x8 x9 x10 x11 (!t116))) else (none)) else (none)) else (none)) else (none)) else (slices_pdqsortOrdered_uint64.j5 k x0 x1 x2 x3 x8 x9 x10 x11 false)
def slices_pdqsortOrdered_uint64.j5 : Nat → List Int → Int → Int → Int → Bool → Bool → Int → Int → Bool → Option (List Int)
  | 0, _, _, _, _, _, _, _, _, _ => none
  | k + 1, x0, x1, x2, x3, x8, x9, x10, x11, x87 => if x87 = true then ((slices_partitionEqualOrdered_uint64.f x0 x1 x2 x11).bind fun t117 => (slices_pdqsortOrdered_uint64.l0 k x0 t117 x2 x3 x8 x9)) else ((slices_partitionOrdered_uint64.f x0 x1 x2 x11).bind fun bt118 => (if (wrap64 (bt118.1 - x1)) < (wrap64 (x2 - bt118.1)) then ((slices_pdqsortOrdered_uint64.f k x0 x1 bt118.1 x3).bind fun t120 => (slices_pdqsortOrdered_uint64.l0 k t120 (wrap64 (bt118.1 + 1)) x2 x3 (decide ((wrap64 (bt118.1 - x1)) ≥ (wrap64 (Int.tdiv x10 8)))) bt118.2)) else ((slices_pdqsortOrdered_uint64.f k x0 (wrap64 (bt118.1 + 1)) x2 x3).bind fun t121 => (slices_pdqsortOrdered_uint64.l0 k t121 x1 bt118.1 x3 (decide ((wrap64 (x2 - bt118.1)) ≥ (wrap64 (Int.tdiv x10 8)))) bt118.2))))
def slices_pdqsortOrdered_uint64.f : Nat → List Int → Int → Int → Int → Option (List Int)
  | 0, _, _, _, _ => none
  | k + 1, l0, a1, a2, a3 => slices_pdqsortOrdered_uint64.l0 k l0 a1 a2 a3 true true
end
set_option maxHeartbeats 8000000 in
set_option maxRecDepth 100000 in
theorem slices_pdqsortOrdered_uint64.calls (k : Nat) : ∀ (P0_ : Nat → Prop) (u9000_ : Value) (l0 : List Int) (a1 : Int) (a2 : Int) (a3 : Int) (r : List Int) (w0 w : World) (hB : Below w0.heap.size w0 w) (ho0 : Kd.R (Kd.int .u64) 26 w w0.heap.size P0_ u9000_ l0) (h : slices_pdqsortOrdered_uint64.f k l0 a1 a2 a3 = some r),
    Calls Try.prog 44 #[u9000_, .int .i64 a1, .int .i64 a2, .int .i64 a3] w fun e w' => e = .returned (.tuple #[]) ∧ Kd.R (Kd.int .u64) 26 w' w0.heap.size (fun k_ => (P0_ k_ ∨ w.heap.size ≤ k_)) u9000_ r ∧ Below w0.heap.size w0 w' ∧ Kept w w' (fun k_ => P0_ k_) := by
  induction k using Nat.strongRecOn with
  | _ k ih =>
  intro P0_ u9000_ l0 a1 a2 a3 r w0 w hB ho0 h
  cases k with
  | zero => exact absurd h (by simp [slices_pdqsortOrdered_uint64.f])
  | succ k =>
  simp only [slices_pdqsortOrdered_uint64.f] at h
  have HO0 := Aside0.mk (show Kd.R (Kd.int .u64) 26 w w0.heap.size (fun k_ => (P0_ k_ ∨ w.heap.size ≤ k_)) u9000_ l0 from Kd.R_mono ho0 (fun k_ hk => (.inl hk)))
  have HK := Aside0.mk (Kept.refl w (fun k_ => P0_ k_))
  have HW0 := Aside0.mk hB.size
  have HB := Aside0.mk hB
  clear hB
  have H : (slices_pdqsortOrdered_uint64.l0 k l0 a1 a2 a3 true true) = some r := h
  clear h
  have H' := Aside0.mk H
  clear H
  go_enter Try.func44, Try.ntmps44
  go_wp2
  repeat (go_quiet (fail); try go_wp2)
  go_loopg [1, 2, 3, 8, 9] k (fun kq v1 v2 v3 v8 v9 w' => ∃ (x0_1 : List Int) (x1_1 : Int) (x2_1 : Int) (x3_1 : Int) (x8_1 : Bool) (x9_1 : Bool), v1 = .int .i64 x1_1 ∧ v2 = .int .i64 x2_1 ∧ v3 = .int .i64 x3_1 ∧ v8 = .bool x8_1 ∧ v9 = .bool x9_1 ∧ Aside0 (slices_pdqsortOrdered_uint64.l0 kq x0_1 x1_1 x2_1 x3_1 x8_1 x9_1 = some r) ∧ Aside0 (kq ≤ k) ∧ Aside0 (Kd.R (Kd.int .u64) 26 w' w0.heap.size (fun k_ => (P0_ k_ ∨ w.heap.size ≤ k_)) u9000_ x0_1) ∧ Aside0 (Kept w w' (fun k_ => P0_ k_)) ∧ Aside0 (Below w0.heap.size w0 w'))
  case atStart => exact ⟨(l0), (a1), (a2), (a3), (true), (true), (by first | rfl | (simp; done) | (simp [*]; done)), (by first | rfl | (simp; done) | (simp [*]; done)), (by first | rfl | (simp; done) | (simp [*]; done)), (by first | rfl | (simp; done) | (simp [*]; done)), (by first | rfl | (simp; done) | (simp [*]; done)), H', ⟨Nat.le_refl _⟩, ⟨by (with_reducible repeat (first | apply Kd.R_alloc | apply Kd.R_drewN | apply Kd.R_drew)); exact HO0.out⟩, ⟨by repeat (first | (with_reducible first | exact HK.out | apply Kept.alloc | apply Kept.drewN | apply Kept.drew) | exact HK.out)⟩, ⟨by repeat (first | (with_reducible first | exact HB.out | apply below_alloc | apply pw_below_drewN | apply below_drew1) | exact HB.out)⟩⟩
  case round =>
    clear H'
    try clear p2
    try clear c4
    obtain ⟨x0_1, x1_1, x2_1, x3_1, x8_1, x9_1, rfl, rfl, rfl, rfl, rfl, HA, HK1, HO_0, HK, HB⟩ := hrel
    cases gk with
    | zero => exact absurd HA.out (by simp [slices_pdqsortOrdered_uint64.l0])
    | succ k1 =>
      have H := HA.out
      clear HA
      simp only [slices_pdqsortOrdered_uint64.l0] at H
      by_cases c5 : (wrap64 (x2_1 - x1_1)) ≤ 12
      · rw [if_pos c5] at H
        have c5b0 : decide ((wrap64 (x2_1 - x1_1)) ≤ 12) = true := decide_eq_true c5
        clear c5
        replace H := Option.bind_eq_some_iff.mp H
        obtain ⟨t110, A60, H⟩ := H
        replace H : (some t110) = some r := H
        have A6 := Aside0.mk A60
        clear A60
        obtain rfl := Option.some.inj H
        obtain ⟨Ao7, co7, eo7⟩ := Kd.R_slice HO_0.out
        subst eo7
        go_wp2_with (first | (go_at_call 52; (with_reducible refine (slices_insertionSortOrdered_uint64.calls k1 (fun k_ => some k_ = (.slice Ao7 x0_1.length co7 : Value).ownBlock) (.slice Ao7 x0_1.length co7) x0_1 x1_1 x2_1 t110 w0 _ ?side1 ?side2 A6.out).mono ?_); (case side1 => repeat (first | (with_reducible first | exact HB.out | apply below_alloc | apply pw_below_drewN | apply below_drew1) | exact HB.out)); (case side2 => exact Kd.R_tight rfl HO_0.out); rintro e w8 ⟨rfl, hy0, hb, hkp⟩; have n0_ := Aside0.mk (Kd.R_reok rfl hy0 (fun k_ e_ => HO_0.out.1 k_ e_)); have n1_ := Aside0.mk (Kept.then_ (S := (fun k_ => P0_ k_)) (by repeat (first | (with_reducible first | exact HK.out | apply Kept.alloc | apply Kept.drewN | apply Kept.drew) | exact HK.out)) hkp (fun k_ hs_ => (fun e_ => (HO_0.out.1 k_ e_.symm)) hs_)); have n2_ := Aside0.mk (hb); clear HO_0; clear HK; clear HB; have HO_0 := n0_; have HK := n1_; have HB := n2_; clear n0_ n1_ n2_; (try clear hb); (try clear hkp); (try clear hy0)))
        repeat (go_quiet (first | (go_at_call 52; (with_reducible refine (slices_insertionSortOrdered_uint64.calls k1 (fun k_ => some k_ = (.slice Ao7 x0_1.length co7 : Value).ownBlock) (.slice Ao7 x0_1.length co7) x0_1 x1_1 x2_1 t110 w0 _ ?side1 ?side2 A6.out).mono ?_); (case side1 => repeat (first | (with_reducible first | exact HB.out | apply below_alloc | apply pw_below_drewN | apply below_drew1) | exact HB.out)); (case side2 => exact Kd.R_tight rfl HO_0.out); rintro e w8 ⟨rfl, hy0, hb, hkp⟩; have n0_ := Aside0.mk (Kd.R_reok rfl hy0 (fun k_ e_ => HO_0.out.1 k_ e_)); have n1_ := Aside0.mk (Kept.then_ (S := (fun k_ => P0_ k_)) (by repeat (first | (with_reducible first | exact HK.out | apply Kept.alloc | apply Kept.drewN | apply Kept.drew) | exact HK.out)) hkp (fun k_ hs_ => (fun e_ => (HO_0.out.1 k_ e_.symm)) hs_)); have n2_ := Aside0.mk (hb); clear HO_0; clear HK; clear HB; have HO_0 := n0_; have HK := n1_; have HB := n2_; clear n0_ n1_ n2_; (try clear hb); (try clear hkp); (try clear hy0))); try go_wp2_with (first | (go_at_call 52; (with_reducible refine (slices_insertionSortOrdered_uint64.calls k1 (fun k_ => some k_ = (.slice Ao7 x0_1.length co7 : Value).ownBlock) (.slice Ao7 x0_1.length co7) x0_1 x1_1 x2_1 t110 w0 _ ?side1 ?side2 A6.out).mono ?_); (case side1 => repeat (first | (with_reducible first | exact HB.out | apply below_alloc | apply pw_below_drewN | apply below_drew1) | exact HB.out)); (case side2 => exact Kd.R_tight rfl HO_0.out); rintro e w8 ⟨rfl, hy0, hb, hkp⟩; have n0_ := Aside0.mk (Kd.R_reok rfl hy0 (fun k_ e_ => HO_0.out.1 k_ e_)); have n1_ := Aside0.mk (Kept.then_ (S := (fun k_ => P0_ k_)) (by repeat (first | (with_reducible first | exact HK.out | apply Kept.alloc | apply Kept.drewN | apply Kept.drew) | exact HK.out)) hkp (fun k_ hs_ => (fun e_ => (HO_0.out.1 k_ e_.symm)) hs_)); have n2_ := Aside0.mk (hb); clear HO_0; clear HK; clear HB; have HO_0 := n0_; have HK := n1_; have HB := n2_; clear n0_ n1_ n2_; (try clear hb); (try clear hkp); (try clear hy0))))
        first | go_end0 | ((try simp only [Exit.inBlock, Exit.then]); refine bodyPost_ret (results_none rfl _ _ _) rfl ?_)
        exact ⟨by first | rfl | (simp [errW_none, errW_some] <;> rfl) | (simp [*, errW_none, errW_some] <;> rfl), by (with_reducible repeat (first | apply Kd.R_alloc | apply Kd.R_drewN | apply Kd.R_drew)); exact HO_0.out, by repeat (first | (with_reducible first | exact HB.out | apply below_alloc | apply pw_below_drewN | apply below_drew1) | exact HB.out), by repeat (first | (with_reducible first | exact HK.out | apply Kept.alloc | apply Kept.drewN | apply Kept.drew) | exact HK.out)⟩
      · rw [if_neg c5] at H
        have c5b0 : decide ((wrap64 (x2_1 - x1_1)) ≤ 12) = false := decide_eq_false c5
        clear c5
        by_cases c9 : x3_1 = 0
        · rw [if_pos c9] at H
          have c9b0 : (x3_1 == 0) = true := beq_iff_eq.mpr c9
          have c9b1 : (x3_1 != 0) = false := bne_eq_false_iff_eq.mpr c9
          clear c9
          replace H := Option.bind_eq_some_iff.mp H
          obtain ⟨_, A100, H⟩ := H
          replace H : (some x0_1) = some r := H
          have A10 := Aside0.mk A100
          clear A100
          obtain rfl := Option.some.inj H
          obtain ⟨Ao11, co11, eo11⟩ := Kd.R_slice HO_0.out
          subst eo11
          go_wp2_with (first | (go_at_call 53; (with_reducible refine (slices_heapSortOrdered_uint64.calls _ _ x0_1 x1_1 x2_1  _ ?side1 ?side2 A10.out).mono ?_); (case side1 => repeat (first | exact (Kd.R_reads' HO_0.out).2.2 | (with_reducible refine Kd.C_alloc ?_ _) | (with_reducible refine Kd.C_drewN ?_ _) | (with_reducible refine Kd.C_drew ?_))); (case side2 => exact (Kd.R_reads' HO_0.out).2.1); rintro e w' ⟨rfl, ⟨nd, rfl⟩⟩; (try first | exact ⟨rfl, _, World.drewN_drewN _ _ _⟩ | exact ⟨rfl, _, Eq.trans (World.drewN_drewN _ _ _) (congrArg (World.drewN _) (Nat.add_assoc _ _ _))⟩)))
          repeat (go_quiet (first | (go_at_call 53; (with_reducible refine (slices_heapSortOrdered_uint64.calls _ _ x0_1 x1_1 x2_1  _ ?side1 ?side2 A10.out).mono ?_); (case side1 => repeat (first | exact (Kd.R_reads' HO_0.out).2.2 | (with_reducible refine Kd.C_alloc ?_ _) | (with_reducible refine Kd.C_drewN ?_ _) | (with_reducible refine Kd.C_drew ?_))); (case side2 => exact (Kd.R_reads' HO_0.out).2.1); rintro e w' ⟨rfl, ⟨nd, rfl⟩⟩; (try first | exact ⟨rfl, _, World.drewN_drewN _ _ _⟩ | exact ⟨rfl, _, Eq.trans (World.drewN_drewN _ _ _) (congrArg (World.drewN _) (Nat.add_assoc _ _ _))⟩))); try go_wp2_with (first | (go_at_call 53; (with_reducible refine (slices_heapSortOrdered_uint64.calls _ _ x0_1 x1_1 x2_1  _ ?side1 ?side2 A10.out).mono ?_); (case side1 => repeat (first | exact (Kd.R_reads' HO_0.out).2.2 | (with_reducible refine Kd.C_alloc ?_ _) | (with_reducible refine Kd.C_drewN ?_ _) | (with_reducible refine Kd.C_drew ?_))); (case side2 => exact (Kd.R_reads' HO_0.out).2.1); rintro e w' ⟨rfl, ⟨nd, rfl⟩⟩; (try first | exact ⟨rfl, _, World.drewN_drewN _ _ _⟩ | exact ⟨rfl, _, Eq.trans (World.drewN_drewN _ _ _) (congrArg (World.drewN _) (Nat.add_assoc _ _ _))⟩))))
          first | go_end0 | ((try simp only [Exit.inBlock, Exit.then]); refine bodyPost_ret (results_none rfl _ _ _) rfl ?_)
          exact ⟨by first | rfl | (simp [errW_none, errW_some] <;> rfl) | (simp [*, errW_none, errW_some] <;> rfl), by (with_reducible repeat (first | apply Kd.R_alloc | apply Kd.R_drewN | apply Kd.R_drew)); exact HO_0.out, by repeat (first | (with_reducible first | exact HB.out | apply below_alloc | apply pw_below_drewN | apply below_drew1) | exact HB.out), by repeat (first | (with_reducible first | exact HK.out | apply Kept.alloc | apply Kept.drewN | apply Kept.drew) | exact HK.out)⟩
        · rw [if_neg c9] at H
          have c9b0 : (x3_1 == 0) = false := beq_eq_false_iff_ne.mpr c9
          have c9b1 : (x3_1 != 0) = true := bne_iff_ne.mpr c9
          have HC12 := Aside0.mk H
          clear H
          go_upto_if 35 with (fail)
          repeat (go_quiet (fail); go_upto_if 35 with (fail))
          go_cut [3] (fun v3 wc => ∃ (kq : Nat) (x3_11 : Int), v3 = .int .i64 x3_11 ∧ Aside0 (slices_pdqsortOrdered_uint64.j1 kq x0_1 x1_1 x2_1 x3_11 x8_1 x9_1 (wrap64 (x2_1 - x1_1)) = some r) ∧ Aside0 (kq ≤ k1) ∧ Aside0 (Kd.R (Kd.int .u64) 26 wc w0.heap.size (fun k_ => (P0_ k_ ∨ w.heap.size ≤ k_)) u9000_ x0_1) ∧ Aside0 (Kept w wc (fun k_ => P0_ k_)) ∧ Aside0 (Below w0.heap.size w0 wc))
          case first =>
            have H := HC12.out
            clear HC12
            by_cases c13 : x8_1 = true
            · subst c13
              have H1 : (slices_pdqsortOrdered_uint64.j1 k1 x0_1 x1_1 x2_1 x3_1 true x9_1 (wrap64 (x2_1 - x1_1))) = some r := by rw [if_pos rfl] at H <;> exact H
              clear H
              have H := H1
              clear H1
              have H' := Aside0.mk H
              clear H
              go_wp2
              repeat (go_quiet (fail); try go_wp2)
              go_meet
              case rel => exact ⟨_, (x3_1), (by first | rfl | (simp; done) | (simp [*]; done)), H', ⟨by have := HK1.out; first | omega | exact Nat.le_refl _⟩, ⟨by (with_reducible repeat (first | apply Kd.R_alloc | apply Kd.R_drewN | apply Kd.R_drew)); exact HO_0.out⟩, ⟨by repeat (first | (with_reducible first | exact HK.out | apply Kept.alloc | apply Kept.drewN | apply Kept.drew) | exact HK.out)⟩, ⟨by repeat (first | (with_reducible first | exact HB.out | apply below_alloc | apply pw_below_drewN | apply below_drew1) | exact HB.out)⟩⟩
            · replace c13 := Bool.eq_false_iff.mpr c13
              subst c13
              have H1 : ((slices_breakPatternsOrdered_uint64.f x0_1 x1_1 x2_1).bind fun _ => (slices_pdqsortOrdered_uint64.j1 k1 x0_1 x1_1 x2_1 (wrap64 (x3_1 - 1)) false x9_1 (wrap64 (x2_1 - x1_1)))) = some r := by rw [if_neg (show ¬ (false = true) by decide)] at H <;> exact H
              clear H
              have H := H1
              clear H1
              replace H := Option.bind_eq_some_iff.mp H
              obtain ⟨_, A140, H⟩ := H
              replace H : (slices_pdqsortOrdered_uint64.j1 k1 x0_1 x1_1 x2_1 (wrap64 (x3_1 - 1)) false x9_1 (wrap64 (x2_1 - x1_1))) = some r := H
              have A14 := Aside0.mk A140
              clear A140
              have H' := Aside0.mk H
              clear H
              obtain ⟨Ao15, co15, eo15⟩ := Kd.R_slice HO_0.out
              subst eo15
              go_wp2_with (first | (go_at_call 54; (with_reducible refine (slices_breakPatternsOrdered_uint64.calls _ _ x0_1 x1_1 x2_1  _ ?side1 ?side2 A14.out).mono ?_); (case side1 => repeat (first | exact (Kd.R_reads' HO_0.out).2.2 | (with_reducible refine Kd.C_alloc ?_ _) | (with_reducible refine Kd.C_drewN ?_ _) | (with_reducible refine Kd.C_drew ?_))); (case side2 => exact (Kd.R_reads' HO_0.out).2.1); rintro e w' ⟨rfl, ⟨nd, rfl⟩⟩; (try first | exact ⟨rfl, _, World.drewN_drewN _ _ _⟩ | exact ⟨rfl, _, Eq.trans (World.drewN_drewN _ _ _) (congrArg (World.drewN _) (Nat.add_assoc _ _ _))⟩)))
              repeat (go_quiet (first | (go_at_call 54; (with_reducible refine (slices_breakPatternsOrdered_uint64.calls _ _ x0_1 x1_1 x2_1  _ ?side1 ?side2 A14.out).mono ?_); (case side1 => repeat (first | exact (Kd.R_reads' HO_0.out).2.2 | (with_reducible refine Kd.C_alloc ?_ _) | (with_reducible refine Kd.C_drewN ?_ _) | (with_reducible refine Kd.C_drew ?_))); (case side2 => exact (Kd.R_reads' HO_0.out).2.1); rintro e w' ⟨rfl, ⟨nd, rfl⟩⟩; (try first | exact ⟨rfl, _, World.drewN_drewN _ _ _⟩ | exact ⟨rfl, _, Eq.trans (World.drewN_drewN _ _ _) (congrArg (World.drewN _) (Nat.add_assoc _ _ _))⟩))); try go_wp2_with (first | (go_at_call 54; (with_reducible refine (slices_breakPatternsOrdered_uint64.calls _ _ x0_1 x1_1 x2_1  _ ?side1 ?side2 A14.out).mono ?_); (case side1 => repeat (first | exact (Kd.R_reads' HO_0.out).2.2 | (with_reducible refine Kd.C_alloc ?_ _) | (with_reducible refine Kd.C_drewN ?_ _) | (with_reducible refine Kd.C_drew ?_))); (case side2 => exact (Kd.R_reads' HO_0.out).2.1); rintro e w' ⟨rfl, ⟨nd, rfl⟩⟩; (try first | exact ⟨rfl, _, World.drewN_drewN _ _ _⟩ | exact ⟨rfl, _, Eq.trans (World.drewN_drewN _ _ _) (congrArg (World.drewN _) (Nat.add_assoc _ _ _))⟩))))
              go_meet
              case rel => exact ⟨_, (wrap64 (x3_1 - 1)), (by first | rfl | (simp; done) | (simp [*]; done)), H', ⟨by have := HK1.out; first | omega | exact Nat.le_refl _⟩, ⟨by (with_reducible repeat (first | apply Kd.R_alloc | apply Kd.R_drewN | apply Kd.R_drew)); exact HO_0.out⟩, ⟨by repeat (first | (with_reducible first | exact HK.out | apply Kept.alloc | apply Kept.drewN | apply Kept.drew) | exact HK.out)⟩, ⟨by repeat (first | (with_reducible first | exact HB.out | apply below_alloc | apply pw_below_drewN | apply below_drew1) | exact HB.out)⟩⟩
          case rest =>
            clear HC12
            try clear c1
            try clear p2
            try clear c4
            try clear c5
            try clear c5b0
            try clear p6
            try clear c9
            try clear c9b0
            try clear c9b1
            try clear c13
            try clear p2
            obtain ⟨kq, x3_11, rfl, HA, HJ11, HO_0, HK, HB⟩ := hcut
            cases kq with
            | zero => exact absurd HA.out (by simp [slices_pdqsortOrdered_uint64.j1])
            | succ kj11 =>
              have H := HA.out
              clear HA
              simp only [slices_pdqsortOrdered_uint64.j1] at H
              replace H := Option.bind_eq_some_iff.mp H
              obtain ⟨⟨t111, t112⟩, A160, H⟩ := H
              replace H : (if t112 = 2 then ((slices_reverseRangeOrdered_uint64.f x0_1 x1_1 x2_1).bind fun _ => (slices_pdqsortOrdered_uint64.j2 kj11 x0_1 x1_1 x2_1 x3_11 x8_1 x9_1 (wrap64 (x2_1 - x1_1)) (wrap64 ((wrap64 (x2_1 - 1)) - (wrap64 (t111 - x1_1)))) 1)) else (slices_pdqsortOrdered_uint64.j2 kj11 x0_1 x1_1 x2_1 x3_11 x8_1 x9_1 (wrap64 (x2_1 - x1_1)) t111 t112)) = some r := H
              have A16 := Aside0.mk A160
              clear A160
              have HC17 := Aside0.mk H
              clear H
              obtain ⟨Ao18, co18, eo18⟩ := Kd.R_slice HO_0.out
              subst eo18
              go_upto_if 50 with (first | (go_at_call 55; (with_reducible refine (slices_choosePivotOrdered_uint64.calls _ _ x0_1 x1_1 x2_1 t111 t112 _ ?side1 ?side2 A16.out).mono ?_); (case side1 => repeat (first | exact (Kd.R_reads' HO_0.out).2.2 | (with_reducible refine Kd.C_alloc ?_ _) | (with_reducible refine Kd.C_drewN ?_ _) | (with_reducible refine Kd.C_drew ?_))); (case side2 => exact (Kd.R_reads' HO_0.out).2.1); rintro e w' ⟨rfl, ⟨nd, rfl⟩⟩; (try first | exact ⟨rfl, _, World.drewN_drewN _ _ _⟩ | exact ⟨rfl, _, Eq.trans (World.drewN_drewN _ _ _) (congrArg (World.drewN _) (Nat.add_assoc _ _ _))⟩)))
              repeat (go_quiet (first | (go_at_call 55; (with_reducible refine (slices_choosePivotOrdered_uint64.calls _ _ x0_1 x1_1 x2_1 t111 t112 _ ?side1 ?side2 A16.out).mono ?_); (case side1 => repeat (first | exact (Kd.R_reads' HO_0.out).2.2 | (with_reducible refine Kd.C_alloc ?_ _) | (with_reducible refine Kd.C_drewN ?_ _) | (with_reducible refine Kd.C_drew ?_))); (case side2 => exact (Kd.R_reads' HO_0.out).2.1); rintro e w' ⟨rfl, ⟨nd, rfl⟩⟩; (try first | exact ⟨rfl, _, World.drewN_drewN _ _ _⟩ | exact ⟨rfl, _, Eq.trans (World.drewN_drewN _ _ _) (congrArg (World.drewN _) (Nat.add_assoc _ _ _))⟩))); go_upto_if 50 with (first | (go_at_call 55; (with_reducible refine (slices_choosePivotOrdered_uint64.calls _ _ x0_1 x1_1 x2_1 t111 t112 _ ?side1 ?side2 A16.out).mono ?_); (case side1 => repeat (first | exact (Kd.R_reads' HO_0.out).2.2 | (with_reducible refine Kd.C_alloc ?_ _) | (with_reducible refine Kd.C_drewN ?_ _) | (with_reducible refine Kd.C_drew ?_))); (case side2 => exact (Kd.R_reads' HO_0.out).2.1); rintro e w' ⟨rfl, ⟨nd, rfl⟩⟩; (try first | exact ⟨rfl, _, World.drewN_drewN _ _ _⟩ | exact ⟨rfl, _, Eq.trans (World.drewN_drewN _ _ _) (congrArg (World.drewN _) (Nat.add_assoc _ _ _))⟩))))
              (try simp only [Act.put, List.setIfInBounds_toArray, List.set_cons_zero, List.set_cons_succ])
              go_cut [11, 12] (fun v11 v12 wc => ∃ (kq : Nat) (x11_16 : Int) (x12_16 : Int), v11 = .int .i64 x11_16 ∧ v12 = .int .i64 x12_16 ∧ Aside0 (slices_pdqsortOrdered_uint64.j2 kq x0_1 x1_1 x2_1 x3_11 x8_1 x9_1 (wrap64 (x2_1 - x1_1)) x11_16 x12_16 = some r) ∧ Aside0 (kq ≤ kj11) ∧ Aside0 (Kd.R (Kd.int .u64) 26 wc w0.heap.size (fun k_ => (P0_ k_ ∨ w.heap.size ≤ k_)) (.slice Ao18 x0_1.length co18) x0_1) ∧ Aside0 (Kept w wc (fun k_ => P0_ k_)) ∧ Aside0 (Below w0.heap.size w0 wc))
              case first =>
                have H := HC17.out
                clear HC17
                by_cases c19 : t112 = 2
                · rw [if_pos c19] at H
                  have c19b0 : (t112 == 2) = true := beq_iff_eq.mpr c19
                  have c19b1 : (t112 != 2) = false := bne_eq_false_iff_eq.mpr c19
                  clear c19
                  (first | rw [c19b0] | (simp only [i64_w, i32_w]; rw [c19b0]) | skip)
                  replace H := Option.bind_eq_some_iff.mp H
                  obtain ⟨_, A200, H⟩ := H
                  replace H : (slices_pdqsortOrdered_uint64.j2 kj11 x0_1 x1_1 x2_1 x3_11 x8_1 x9_1 (wrap64 (x2_1 - x1_1)) (wrap64 ((wrap64 (x2_1 - 1)) - (wrap64 (t111 - x1_1)))) 1) = some r := H
                  have A20 := Aside0.mk A200
                  clear A200
                  have H' := Aside0.mk H
                  clear H
                  go_wp2_with (first | (go_at_call 56; (with_reducible refine (slices_reverseRangeOrdered_uint64.calls _ _ x0_1 x1_1 x2_1  _ ?side1 ?side2 A20.out).mono ?_); (case side1 => repeat (first | exact (Kd.R_reads' HO_0.out).2.2 | (with_reducible refine Kd.C_alloc ?_ _) | (with_reducible refine Kd.C_drewN ?_ _) | (with_reducible refine Kd.C_drew ?_))); (case side2 => exact (Kd.R_reads' HO_0.out).2.1); rintro e w' ⟨rfl, ⟨nd, rfl⟩⟩; (try first | exact ⟨rfl, _, World.drewN_drewN _ _ _⟩ | exact ⟨rfl, _, Eq.trans (World.drewN_drewN _ _ _) (congrArg (World.drewN _) (Nat.add_assoc _ _ _))⟩)))
                  repeat (go_quiet (first | (go_at_call 56; (with_reducible refine (slices_reverseRangeOrdered_uint64.calls _ _ x0_1 x1_1 x2_1  _ ?side1 ?side2 A20.out).mono ?_); (case side1 => repeat (first | exact (Kd.R_reads' HO_0.out).2.2 | (with_reducible refine Kd.C_alloc ?_ _) | (with_reducible refine Kd.C_drewN ?_ _) | (with_reducible refine Kd.C_drew ?_))); (case side2 => exact (Kd.R_reads' HO_0.out).2.1); rintro e w' ⟨rfl, ⟨nd, rfl⟩⟩; (try first | exact ⟨rfl, _, World.drewN_drewN _ _ _⟩ | exact ⟨rfl, _, Eq.trans (World.drewN_drewN _ _ _) (congrArg (World.drewN _) (Nat.add_assoc _ _ _))⟩))); try go_wp2_with (first | (go_at_call 56; (with_reducible refine (slices_reverseRangeOrdered_uint64.calls _ _ x0_1 x1_1 x2_1  _ ?side1 ?side2 A20.out).mono ?_); (case side1 => repeat (first | exact (Kd.R_reads' HO_0.out).2.2 | (with_reducible refine Kd.C_alloc ?_ _) | (with_reducible refine Kd.C_drewN ?_ _) | (with_reducible refine Kd.C_drew ?_))); (case side2 => exact (Kd.R_reads' HO_0.out).2.1); rintro e w' ⟨rfl, ⟨nd, rfl⟩⟩; (try first | exact ⟨rfl, _, World.drewN_drewN _ _ _⟩ | exact ⟨rfl, _, Eq.trans (World.drewN_drewN _ _ _) (congrArg (World.drewN _) (Nat.add_assoc _ _ _))⟩))))
                  go_meet
                  case rel => exact ⟨_, (wrap64 ((wrap64 (x2_1 - 1)) - (wrap64 (t111 - x1_1)))), (1), (by first | rfl | (simp; done) | (simp [*]; done)), (by first | rfl | (simp; done) | (simp [*]; done)), H', ⟨by have := HK1.out; have := HJ11.out; first | omega | exact Nat.le_refl _⟩, ⟨by (with_reducible repeat (first | apply Kd.R_alloc | apply Kd.R_drewN | apply Kd.R_drew)); exact HO_0.out⟩, ⟨by repeat (first | (with_reducible first | exact HK.out | apply Kept.alloc | apply Kept.drewN | apply Kept.drew) | exact HK.out)⟩, ⟨by repeat (first | (with_reducible first | exact HB.out | apply below_alloc | apply pw_below_drewN | apply below_drew1) | exact HB.out)⟩⟩
                · rw [if_neg c19] at H
                  have c19b0 : (t112 == 2) = false := beq_eq_false_iff_ne.mpr c19
                  have c19b1 : (t112 != 2) = true := bne_iff_ne.mpr c19
                  (first | rw [c19b0] | (simp only [i64_w, i32_w]; rw [c19b0]) | skip)
                  have H' := Aside0.mk H
                  clear H
                  go_wp2
                  repeat (go_quiet (fail); try go_wp2)
                  go_meet
                  case rel => exact ⟨_, (t111), (t112), (by first | rfl | (simp; done) | (simp [*]; done)), (by first | rfl | (simp; done) | (simp [*]; done)), H', ⟨by have := HK1.out; have := HJ11.out; first | omega | exact Nat.le_refl _⟩, ⟨by (with_reducible repeat (first | apply Kd.R_alloc | apply Kd.R_drewN | apply Kd.R_drew)); exact HO_0.out⟩, ⟨by repeat (first | (with_reducible first | exact HK.out | apply Kept.alloc | apply Kept.drewN | apply Kept.drew) | exact HK.out)⟩, ⟨by repeat (first | (with_reducible first | exact HB.out | apply below_alloc | apply pw_below_drewN | apply below_drew1) | exact HB.out)⟩⟩
              case rest =>
                clear HC17
                try clear c1
                try clear p2
                try clear c4
                try clear c5
                try clear c5b0
                try clear p6
                try clear c9
                try clear c9b0
                try clear c9b1
                try clear c13
                try clear c19
                try clear c19b0
                try clear c19b1
                try clear p2
                try clear p6
                obtain ⟨kq, x11_16, x12_16, rfl, rfl, HA, HJ16, HO_0, HK, HB⟩ := hcut
                cases kq with
                | zero => exact absurd HA.out (by simp [slices_pdqsortOrdered_uint64.j2])
                | succ kj16 =>
                  have H := HA.out
                  clear HA
                  simp only [slices_pdqsortOrdered_uint64.j2] at H
                  have HC21 := Aside0.mk H
                  clear H
                  go_upto_region 15 with (fail)
                  repeat (go_quiet (fail); go_upto_region 15 with (fail))
                  go_cut [68] (fun v68 wc => ∃ (kq : Nat) (x68_20 : Bool), v68 = .bool x68_20 ∧ Aside0 (slices_pdqsortOrdered_uint64.j3 kq x0_1 x1_1 x2_1 x3_11 x8_1 x9_1 (wrap64 (x2_1 - x1_1)) x11_16 x68_20 = some r) ∧ Aside0 (kq ≤ kj16) ∧ Aside0 (Kd.R (Kd.int .u64) 26 wc w0.heap.size (fun k_ => (P0_ k_ ∨ w.heap.size ≤ k_)) (.slice Ao18 x0_1.length co18) x0_1) ∧ Aside0 (Kept w wc (fun k_ => P0_ k_)) ∧ Aside0 (Below w0.heap.size w0 wc))
                  case first =>
                    have H := HC21.out
                    clear HC21
                    by_cases c22 : x8_1 = true
                    · subst c22
                      have H1 : (if x9_1 = true then (slices_pdqsortOrdered_uint64.j3 kj16 x0_1 x1_1 x2_1 x3_11 true x9_1 (wrap64 (x2_1 - x1_1)) x11_16 (x12_16 == 1)) else (slices_pdqsortOrdered_uint64.j3 kj16 x0_1 x1_1 x2_1 x3_11 true x9_1 (wrap64 (x2_1 - x1_1)) x11_16 false)) = some r := by rw [if_pos rfl] at H <;> exact H
                      clear H
                      have H := H1
                      clear H1
                      by_cases c23 : x9_1 = true
                      · subst c23
                        have H1 : (slices_pdqsortOrdered_uint64.j3 kj16 x0_1 x1_1 x2_1 x3_11 true true (wrap64 (x2_1 - x1_1)) x11_16 (x12_16 == 1)) = some r := by rw [if_pos rfl] at H <;> exact H
                        clear H
                        have H := H1
                        clear H1
                        have H' := Aside0.mk H
                        clear H
                        go_wp2
                        repeat (go_quiet (fail); try go_wp2)
                        go_meet
                        case rel => exact ⟨_, ((x12_16 == 1)), (by first | rfl | (simp; done) | (simp [*]; done)), H', ⟨by have := HK1.out; have := HJ11.out; have := HJ16.out; first | omega | exact Nat.le_refl _⟩, ⟨by (with_reducible repeat (first | apply Kd.R_alloc | apply Kd.R_drewN | apply Kd.R_drew)); exact HO_0.out⟩, ⟨by repeat (first | (with_reducible first | exact HK.out | apply Kept.alloc | apply Kept.drewN | apply Kept.drew) | exact HK.out)⟩, ⟨by repeat (first | (with_reducible first | exact HB.out | apply below_alloc | apply pw_below_drewN | apply below_drew1) | exact HB.out)⟩⟩
                      · replace c23 := Bool.eq_false_iff.mpr c23
                        subst c23
                        have H1 : (slices_pdqsortOrdered_uint64.j3 kj16 x0_1 x1_1 x2_1 x3_11 true false (wrap64 (x2_1 - x1_1)) x11_16 false) = some r := by rw [if_neg (show ¬ (false = true) by decide)] at H <;> exact H
                        clear H
                        have H := H1
                        clear H1
                        have H' := Aside0.mk H
                        clear H
                        go_wp2
                        repeat (go_quiet (fail); try go_wp2)
                        go_meet
                        case rel => exact ⟨_, (false), (by first | rfl | (simp; done) | (simp [*]; done)), H', ⟨by have := HK1.out; have := HJ11.out; have := HJ16.out; first | omega | exact Nat.le_refl _⟩, ⟨by (with_reducible repeat (first | apply Kd.R_alloc | apply Kd.R_drewN | apply Kd.R_drew)); exact HO_0.out⟩, ⟨by repeat (first | (with_reducible first | exact HK.out | apply Kept.alloc | apply Kept.drewN | apply Kept.drew) | exact HK.out)⟩, ⟨by repeat (first | (with_reducible first | exact HB.out | apply below_alloc | apply pw_below_drewN | apply below_drew1) | exact HB.out)⟩⟩
                    · replace c22 := Bool.eq_false_iff.mpr c22
                      subst c22
                      have H1 : (slices_pdqsortOrdered_uint64.j3 kj16 x0_1 x1_1 x2_1 x3_11 false x9_1 (wrap64 (x2_1 - x1_1)) x11_16 false) = some r := by rw [if_neg (show ¬ (false = true) by decide)] at H <;> exact H
                      clear H
                      have H := H1
                      clear H1
                      have H' := Aside0.mk H
                      clear H
                      go_wp2
                      repeat (go_quiet (fail); try go_wp2)
                      go_meet
                      case rel => exact ⟨_, (false), (by first | rfl | (simp; done) | (simp [*]; done)), H', ⟨by have := HK1.out; have := HJ11.out; have := HJ16.out; first | omega | exact Nat.le_refl _⟩, ⟨by (with_reducible repeat (first | apply Kd.R_alloc | apply Kd.R_drewN | apply Kd.R_drew)); exact HO_0.out⟩, ⟨by repeat (first | (with_reducible first | exact HK.out | apply Kept.alloc | apply Kept.drewN | apply Kept.drew) | exact HK.out)⟩, ⟨by repeat (first | (with_reducible first | exact HB.out | apply below_alloc | apply pw_below_drewN | apply below_drew1) | exact HB.out)⟩⟩
                  case rest =>
                    clear HC21
                    try clear c1
                    try clear c2
                    try clear p2
                    try clear c4
                    try clear c5
                    try clear c5b0
                    try clear p6
                    try clear c9
                    try clear c9b0
                    try clear c9b1
                    try clear c13
                    try clear c19
                    try clear c19b0
                    try clear c19b1
                    try clear c22
                    try clear c23
                    try clear p2
                    try clear p6
                    obtain ⟨kq, x68_20, rfl, HA, HJ20, HO_0, HK, HB⟩ := hcut
                    cases kq with
                    | zero => exact absurd HA.out (by simp [slices_pdqsortOrdered_uint64.j3])
                    | succ kj20 =>
                      have H := HA.out
                      clear HA
                      simp only [slices_pdqsortOrdered_uint64.j3] at H
                      have HC24 := Aside0.mk H
                      clear H
                      go_upto_if 68 with (fail)
                      repeat (go_quiet (fail); go_upto_if 68 with (fail))
                      go_cut [] (fun wc => ∃ (kq : Nat), Aside0 (slices_pdqsortOrdered_uint64.j4 kq x0_1 x1_1 x2_1 x3_11 x8_1 x9_1 (wrap64 (x2_1 - x1_1)) x11_16 = some r) ∧ Aside0 (kq ≤ kj20) ∧ Aside0 (Kd.R (Kd.int .u64) 26 wc w0.heap.size (fun k_ => (P0_ k_ ∨ w.heap.size ≤ k_)) (.slice Ao18 x0_1.length co18) x0_1) ∧ Aside0 (Kept w wc (fun k_ => P0_ k_)) ∧ Aside0 (Below w0.heap.size w0 wc))
                      case first =>
                        have H := HC24.out
                        clear HC24
                        by_cases c25 : x68_20 = true
                        · subst c25
                          have H1 : ((slices_partialInsertionSortOrdered_uint64.f x0_1 x1_1 x2_1).bind fun t113 => (if t113 = true then (some x0_1) else (slices_pdqsortOrdered_uint64.j4 kj20 x0_1 x1_1 x2_1 x3_11 x8_1 x9_1 (wrap64 (x2_1 - x1_1)) x11_16))) = some r := by rw [if_pos rfl] at H <;> exact H
                          clear H
                          have H := H1
                          clear H1
                          replace H := Option.bind_eq_some_iff.mp H
                          obtain ⟨t113, A260, H⟩ := H
                          replace H : (if t113 = true then (some x0_1) else (slices_pdqsortOrdered_uint64.j4 kj20 x0_1 x1_1 x2_1 x3_11 x8_1 x9_1 (wrap64 (x2_1 - x1_1)) x11_16)) = some r := H
                          have A26 := Aside0.mk A260
                          clear A260
                          by_cases c27 : t113 = true
                          · subst c27
                            have H1 : (some x0_1) = some r := by rw [if_pos rfl] at H <;> exact H
                            clear H
                            have H := H1
                            clear H1
                            obtain rfl := Option.some.inj H
                            go_wp2_with (first | (go_at_call 57; (with_reducible refine (slices_partialInsertionSortOrdered_uint64.calls _ _ x0_1 x1_1 x2_1 true _ ?side1 ?side2 A26.out).mono ?_); (case side1 => repeat (first | exact (Kd.R_reads' HO_0.out).2.2 | (with_reducible refine Kd.C_alloc ?_ _) | (with_reducible refine Kd.C_drewN ?_ _) | (with_reducible refine Kd.C_drew ?_))); (case side2 => exact (Kd.R_reads' HO_0.out).2.1); rintro e w' ⟨rfl, ⟨nd, rfl⟩⟩; (try first | exact ⟨rfl, _, World.drewN_drewN _ _ _⟩ | exact ⟨rfl, _, Eq.trans (World.drewN_drewN _ _ _) (congrArg (World.drewN _) (Nat.add_assoc _ _ _))⟩)))
                            repeat (go_quiet (first | (go_at_call 57; (with_reducible refine (slices_partialInsertionSortOrdered_uint64.calls _ _ x0_1 x1_1 x2_1 true _ ?side1 ?side2 A26.out).mono ?_); (case side1 => repeat (first | exact (Kd.R_reads' HO_0.out).2.2 | (with_reducible refine Kd.C_alloc ?_ _) | (with_reducible refine Kd.C_drewN ?_ _) | (with_reducible refine Kd.C_drew ?_))); (case side2 => exact (Kd.R_reads' HO_0.out).2.1); rintro e w' ⟨rfl, ⟨nd, rfl⟩⟩; (try first | exact ⟨rfl, _, World.drewN_drewN _ _ _⟩ | exact ⟨rfl, _, Eq.trans (World.drewN_drewN _ _ _) (congrArg (World.drewN _) (Nat.add_assoc _ _ _))⟩))); try go_wp2_with (first | (go_at_call 57; (with_reducible refine (slices_partialInsertionSortOrdered_uint64.calls _ _ x0_1 x1_1 x2_1 true _ ?side1 ?side2 A26.out).mono ?_); (case side1 => repeat (first | exact (Kd.R_reads' HO_0.out).2.2 | (with_reducible refine Kd.C_alloc ?_ _) | (with_reducible refine Kd.C_drewN ?_ _) | (with_reducible refine Kd.C_drew ?_))); (case side2 => exact (Kd.R_reads' HO_0.out).2.1); rintro e w' ⟨rfl, ⟨nd, rfl⟩⟩; (try first | exact ⟨rfl, _, World.drewN_drewN _ _ _⟩ | exact ⟨rfl, _, Eq.trans (World.drewN_drewN _ _ _) (congrArg (World.drewN _) (Nat.add_assoc _ _ _))⟩))))
                            first | go_end0 | ((try simp only [Exit.inBlock, Exit.then]); refine bodyPost_ret (results_none rfl _ _ _) rfl ?_)
                            exact ⟨by first | rfl | (simp [errW_none, errW_some] <;> rfl) | (simp [*, errW_none, errW_some] <;> rfl), by (with_reducible repeat (first | apply Kd.R_alloc | apply Kd.R_drewN | apply Kd.R_drew)); exact HO_0.out, by repeat (first | (with_reducible first | exact HB.out | apply below_alloc | apply pw_below_drewN | apply below_drew1) | exact HB.out), by repeat (first | (with_reducible first | exact HK.out | apply Kept.alloc | apply Kept.drewN | apply Kept.drew) | exact HK.out)⟩
                          · replace c27 := Bool.eq_false_iff.mpr c27
                            subst c27
                            have H1 : (slices_pdqsortOrdered_uint64.j4 kj20 x0_1 x1_1 x2_1 x3_11 x8_1 x9_1 (wrap64 (x2_1 - x1_1)) x11_16) = some r := by rw [if_neg (show ¬ (false = true) by decide)] at H <;> exact H
                            clear H
                            have H := H1
                            clear H1
                            have H' := Aside0.mk H
                            clear H
                            go_wp2_with (first | (go_at_call 57; (with_reducible refine (slices_partialInsertionSortOrdered_uint64.calls _ _ x0_1 x1_1 x2_1 false _ ?side1 ?side2 A26.out).mono ?_); (case side1 => repeat (first | exact (Kd.R_reads' HO_0.out).2.2 | (with_reducible refine Kd.C_alloc ?_ _) | (with_reducible refine Kd.C_drewN ?_ _) | (with_reducible refine Kd.C_drew ?_))); (case side2 => exact (Kd.R_reads' HO_0.out).2.1); rintro e w' ⟨rfl, ⟨nd, rfl⟩⟩; (try first | exact ⟨rfl, _, World.drewN_drewN _ _ _⟩ | exact ⟨rfl, _, Eq.trans (World.drewN_drewN _ _ _) (congrArg (World.drewN _) (Nat.add_assoc _ _ _))⟩)))
                            repeat (go_quiet (first | (go_at_call 57; (with_reducible refine (slices_partialInsertionSortOrdered_uint64.calls _ _ x0_1 x1_1 x2_1 false _ ?side1 ?side2 A26.out).mono ?_); (case side1 => repeat (first | exact (Kd.R_reads' HO_0.out).2.2 | (with_reducible refine Kd.C_alloc ?_ _) | (with_reducible refine Kd.C_drewN ?_ _) | (with_reducible refine Kd.C_drew ?_))); (case side2 => exact (Kd.R_reads' HO_0.out).2.1); rintro e w' ⟨rfl, ⟨nd, rfl⟩⟩; (try first | exact ⟨rfl, _, World.drewN_drewN _ _ _⟩ | exact ⟨rfl, _, Eq.trans (World.drewN_drewN _ _ _) (congrArg (World.drewN _) (Nat.add_assoc _ _ _))⟩))); try go_wp2_with (first | (go_at_call 57; (with_reducible refine (slices_partialInsertionSortOrdered_uint64.calls _ _ x0_1 x1_1 x2_1 false _ ?side1 ?side2 A26.out).mono ?_); (case side1 => repeat (first | exact (Kd.R_reads' HO_0.out).2.2 | (with_reducible refine Kd.C_alloc ?_ _) | (with_reducible refine Kd.C_drewN ?_ _) | (with_reducible refine Kd.C_drew ?_))); (case side2 => exact (Kd.R_reads' HO_0.out).2.1); rintro e w' ⟨rfl, ⟨nd, rfl⟩⟩; (try first | exact ⟨rfl, _, World.drewN_drewN _ _ _⟩ | exact ⟨rfl, _, Eq.trans (World.drewN_drewN _ _ _) (congrArg (World.drewN _) (Nat.add_assoc _ _ _))⟩))))
                            go_meet
                            case rel => exact ⟨_, H', ⟨by have := HK1.out; have := HJ11.out; have := HJ16.out; have := HJ20.out; first | omega | exact Nat.le_refl _⟩, ⟨by (with_reducible repeat (first | apply Kd.R_alloc | apply Kd.R_drewN | apply Kd.R_drew)); exact HO_0.out⟩, ⟨by repeat (first | (with_reducible first | exact HK.out | apply Kept.alloc | apply Kept.drewN | apply Kept.drew) | exact HK.out)⟩, ⟨by repeat (first | (with_reducible first | exact HB.out | apply below_alloc | apply pw_below_drewN | apply below_drew1) | exact HB.out)⟩⟩
                        · replace c25 := Bool.eq_false_iff.mpr c25
                          subst c25
                          have H1 : (slices_pdqsortOrdered_uint64.j4 kj20 x0_1 x1_1 x2_1 x3_11 x8_1 x9_1 (wrap64 (x2_1 - x1_1)) x11_16) = some r := by rw [if_neg (show ¬ (false = true) by decide)] at H <;> exact H
                          clear H
                          have H := H1
                          clear H1
                          have H' := Aside0.mk H
                          clear H
                          go_wp2
                          repeat (go_quiet (fail); try go_wp2)
                          go_meet
                          case rel => exact ⟨_, H', ⟨by have := HK1.out; have := HJ11.out; have := HJ16.out; have := HJ20.out; first | omega | exact Nat.le_refl _⟩, ⟨by (with_reducible repeat (first | apply Kd.R_alloc | apply Kd.R_drewN | apply Kd.R_drew)); exact HO_0.out⟩, ⟨by repeat (first | (with_reducible first | exact HK.out | apply Kept.alloc | apply Kept.drewN | apply Kept.drew) | exact HK.out)⟩, ⟨by repeat (first | (with_reducible first | exact HB.out | apply below_alloc | apply pw_below_drewN | apply below_drew1) | exact HB.out)⟩⟩
                      case rest =>
                        clear HC24
                        try clear c1
                        try clear c2
                        try clear p2
                        try clear c4
                        try clear c5
                        try clear c5b0
                        try clear p6
                        try clear c9
                        try clear c9b0
                        try clear c9b1
                        try clear c13
                        try clear c19
                        try clear c19b0
                        try clear c19b1
                        try clear c22
                        try clear c23
                        try clear c25
                        try clear c27
                        try clear p2
                        try clear p6
                        obtain ⟨kq, HA, HJ23, HO_0, HK, HB⟩ := hcut
                        cases kq with
                        | zero => exact absurd HA.out (by simp [slices_pdqsortOrdered_uint64.j4])
                        | succ kj23 =>
                          have H := HA.out
                          clear HA
                          simp only [slices_pdqsortOrdered_uint64.j4] at H
                          have HC28 := Aside0.mk H
                          clear H
                          go_upto_region 17 with (fail)
                          repeat (go_quiet (fail); go_upto_region 17 with (fail))
                          go_cut [87] (fun v87 wc => ∃ (kq : Nat) (x87_27 : Bool), v87 = .bool x87_27 ∧ Aside0 (slices_pdqsortOrdered_uint64.j5 kq x0_1 x1_1 x2_1 x3_11 x8_1 x9_1 (wrap64 (x2_1 - x1_1)) x11_16 x87_27 = some r) ∧ Aside0 (kq ≤ kj23) ∧ Aside0 (Kd.R (Kd.int .u64) 26 wc w0.heap.size (fun k_ => (P0_ k_ ∨ w.heap.size ≤ k_)) (.slice Ao18 x0_1.length co18) x0_1) ∧ Aside0 (Kept w wc (fun k_ => P0_ k_)) ∧ Aside0 (Below w0.heap.size w0 wc))
                          case first =>
                            have H := HC28.out
                            clear HC28
                            by_cases c29 : x1_1 > 0
                            · rw [if_pos c29] at H
                              have c29b0 : decide (0 < x1_1) = true := decide_eq_true c29
                              clear c29
                              (first | rw [c29b0] | (simp only [i64_w, i32_w]; rw [c29b0]) | skip)
                              obtain ⟨ji30, hji30⟩ : ∃ j_ : Int, (wrap64 (x1_1 - 1)) = j_ := ⟨_, rfl⟩
                              replace H : (if 0 ≤ (ji30) then (if (ji30) < (x0_1.length : Int) then (if 0 ≤ x11_16 then (if x11_16 < (x0_1.length : Int) then ((cmp_Less_uint64.f (rd x0_1 (ji30)) (rd x0_1 x11_16)).bind fun t116 => (slices_pdqsortOrdered_uint64.j5 kj23 x0_1 x1_1 x2_1 x3_11 x8_1 x9_1 (wrap64 (x2_1 - x1_1)) x11_16 (!t116))) else (none)) else (none)) else (none)) else (none)) = some r := by first | (rw [hji30] at H <;> exact H) | (simp only [hji30] at H ⊢; exact H)
                              have hji30w : (IntKind.i64.wrap (x1_1 - 1)) = ji30 := (i64_w _).trans hji30
                              by_cases c31 : 0 ≤ (ji30)
                              · rw [if_pos c31] at H
                                have c31b0 : decide (0 ≤ (ji30)) = true := decide_eq_true c31
                                clear c31
                                by_cases c32 : (ji30) < (x0_1.length : Int)
                                · rw [if_pos c32] at H
                                  have c32b0 : decide ((ji30) < (x0_1.length : Int)) = true := decide_eq_true c32
                                  clear c32
                                  by_cases c33 : 0 ≤ x11_16
                                  · rw [if_pos c33] at H
                                    have c33b0 : decide (0 ≤ x11_16) = true := decide_eq_true c33
                                    clear c33
                                    by_cases c34 : x11_16 < (x0_1.length : Int)
                                    · rw [if_pos c34] at H
                                      have c34b0 : decide (x11_16 < (x0_1.length : Int)) = true := decide_eq_true c34
                                      clear c34
                                      replace H := Option.bind_eq_some_iff.mp H
                                      obtain ⟨t116, A350, H⟩ := H
                                      replace H : (slices_pdqsortOrdered_uint64.j5 kj23 x0_1 x1_1 x2_1 x3_11 x8_1 x9_1 (wrap64 (x2_1 - x1_1)) x11_16 (!t116)) = some r := H
                                      have A35 := Aside0.mk A350
                                      clear A350
                                      have H' := Aside0.mk H
                                      clear H
                                      have p114 : 0 ≤ ((ji30) : Int) := of_decide_eq_true (by first | (with_reducible assumption) | assumption)
                                      have q114 : (ji30) < (x0_1.length : Int) := of_decide_eq_true (by first | (with_reducible assumption) | assumption)
                                      obtain ⟨ad114, e114, hx114_0⟩ := Kd.at_int (Kd.R_reads' HO_0.out).2.2 (ji30) p114 q114
                                      cases e114
                                      replace p114 := eq_true p114
                                      replace q114 := eq_true q114
                                      have p115 : 0 ≤ (x11_16 : Int) := of_decide_eq_true (by first | (with_reducible assumption) | assumption)
                                      have q115 : x11_16 < (x0_1.length : Int) := of_decide_eq_true (by first | (with_reducible assumption) | assumption)
                                      obtain ⟨ad115, e115, hx115_0⟩ := Kd.at_int (Kd.R_reads' HO_0.out).2.2 x11_16 p115 q115
                                      obtain rfl : ad114 = ad115 := (by injection e115)
                                      replace p115 := eq_true p115
                                      replace q115 := eq_true q115
                                      go_wp2_with (first | (go_at_call 58; (with_reducible refine (cmp_Less_uint64.calls (rd x0_1 (ji30)) (rd x0_1 x11_16) t116 _ A35.out).mono ?_); rintro e w' ⟨rfl, ⟨nd, rfl⟩⟩; (try first | exact ⟨rfl, _, World.drewN_drewN _ _ _⟩ | exact ⟨rfl, _, Eq.trans (World.drewN_drewN _ _ _) (congrArg (World.drewN _) (Nat.add_assoc _ _ _))⟩)))
                                      repeat (go_quiet (first | (go_at_call 58; (with_reducible refine (cmp_Less_uint64.calls (rd x0_1 (ji30)) (rd x0_1 x11_16) t116 _ A35.out).mono ?_); rintro e w' ⟨rfl, ⟨nd, rfl⟩⟩; (try first | exact ⟨rfl, _, World.drewN_drewN _ _ _⟩ | exact ⟨rfl, _, Eq.trans (World.drewN_drewN _ _ _) (congrArg (World.drewN _) (Nat.add_assoc _ _ _))⟩))); try go_wp2_with (first | (go_at_call 58; (with_reducible refine (cmp_Less_uint64.calls (rd x0_1 (ji30)) (rd x0_1 x11_16) t116 _ A35.out).mono ?_); rintro e w' ⟨rfl, ⟨nd, rfl⟩⟩; (try first | exact ⟨rfl, _, World.drewN_drewN _ _ _⟩ | exact ⟨rfl, _, Eq.trans (World.drewN_drewN _ _ _) (congrArg (World.drewN _) (Nat.add_assoc _ _ _))⟩))))
                                      go_meet
                                      case rel => exact ⟨_, (!t116), (by first | rfl | (simp; done) | (simp [*]; done)), H', ⟨by have := HK1.out; have := HJ11.out; have := HJ16.out; have := HJ20.out; have := HJ23.out; first | omega | exact Nat.le_refl _⟩, ⟨by (with_reducible repeat (first | apply Kd.R_alloc | apply Kd.R_drewN | apply Kd.R_drew)); exact HO_0.out⟩, ⟨by repeat (first | (with_reducible first | exact HK.out | apply Kept.alloc | apply Kept.drewN | apply Kept.drew) | exact HK.out)⟩, ⟨by repeat (first | (with_reducible first | exact HB.out | apply below_alloc | apply pw_below_drewN | apply below_drew1) | exact HB.out)⟩⟩
                                    · rw [if_neg c34] at H
                                      exact absurd H (by simp)
                                  · rw [if_neg c33] at H
                                    exact absurd H (by simp)
                                · rw [if_neg c32] at H
                                  exact absurd H (by simp)
                              · rw [if_neg c31] at H
                                exact absurd H (by simp)
                            · rw [if_neg c29] at H
                              have c29b0 : decide (0 < x1_1) = false := decide_eq_false c29
                              clear c29
                              (first | rw [c29b0] | (simp only [i64_w, i32_w]; rw [c29b0]) | skip)
                              have H' := Aside0.mk H
                              clear H
                              go_wp2
                              repeat (go_quiet (fail); try go_wp2)
                              go_meet
                              case rel => exact ⟨_, (false), (by first | rfl | (simp; done) | (simp [*]; done)), H', ⟨by have := HK1.out; have := HJ11.out; have := HJ16.out; have := HJ20.out; have := HJ23.out; first | omega | exact Nat.le_refl _⟩, ⟨by (with_reducible repeat (first | apply Kd.R_alloc | apply Kd.R_drewN | apply Kd.R_drew)); exact HO_0.out⟩, ⟨by repeat (first | (with_reducible first | exact HK.out | apply Kept.alloc | apply Kept.drewN | apply Kept.drew) | exact HK.out)⟩, ⟨by repeat (first | (with_reducible first | exact HB.out | apply below_alloc | apply pw_below_drewN | apply below_drew1) | exact HB.out)⟩⟩
                          case rest =>
                            clear HC28
                            try clear c1
                            try clear p1
                            try clear q1
                            try clear hx1
                            try clear c2
                            try clear p2
                            try clear c3
                            try clear c4
                            try clear c5
                            try clear c5b0
                            try clear p6
                            try clear c9
                            try clear c9b0
                            try clear c9b1
                            try clear p11
                            try clear q11
                            try clear hx11
                            try clear c13
                            try clear c19
                            try clear c19b0
                            try clear c19b1
                            try clear c22
                            try clear c23
                            try clear c25
                            try clear c27
                            try clear c29
                            try clear c29b0
                            try clear c31
                            try clear c31b0
                            try clear c32
                            try clear c32b0
                            try clear c33
                            try clear c33b0
                            try clear c34
                            try clear c34b0
                            try clear hx114_0
                            try clear hx115_0
                            try clear p114
                            try clear p115
                            try clear p2
                            try clear p6
                            try clear q114
                            try clear q115
                            obtain ⟨kq, x87_27, rfl, HA, HJ27, HO_0, HK, HB⟩ := hcut
                            cases kq with
                            | zero => exact absurd HA.out (by simp [slices_pdqsortOrdered_uint64.j5])
                            | succ kj27 =>
                              have H := HA.out
                              clear HA
                              simp only [slices_pdqsortOrdered_uint64.j5] at H
                              by_cases c36 : x87_27 = true
                              · subst c36
                                have H1 : ((slices_partitionEqualOrdered_uint64.f x0_1 x1_1 x2_1 x11_16).bind fun t117 => (slices_pdqsortOrdered_uint64.l0 kj27 x0_1 t117 x2_1 x3_11 x8_1 x9_1)) = some r := by rw [if_pos rfl] at H <;> exact H
                                clear H
                                have H := H1
                                clear H1
                                replace H := Option.bind_eq_some_iff.mp H
                                obtain ⟨t117, A370, H⟩ := H
                                replace H : (slices_pdqsortOrdered_uint64.l0 kj27 x0_1 t117 x2_1 x3_11 x8_1 x9_1) = some r := H
                                have A37 := Aside0.mk A370
                                clear A370
                                have H' := Aside0.mk H
                                clear H
                                go_wp2_with (first | (go_at_call 59; (with_reducible refine (slices_partitionEqualOrdered_uint64.calls _ _ x0_1 x1_1 x2_1 x11_16 t117 _ ?side1 ?side2 A37.out).mono ?_); (case side1 => repeat (first | exact (Kd.R_reads' HO_0.out).2.2 | (with_reducible refine Kd.C_alloc ?_ _) | (with_reducible refine Kd.C_drewN ?_ _) | (with_reducible refine Kd.C_drew ?_))); (case side2 => exact (Kd.R_reads' HO_0.out).2.1); rintro e w' ⟨rfl, ⟨nd, rfl⟩⟩; (try first | exact ⟨rfl, _, World.drewN_drewN _ _ _⟩ | exact ⟨rfl, _, Eq.trans (World.drewN_drewN _ _ _) (congrArg (World.drewN _) (Nat.add_assoc _ _ _))⟩)))
                                repeat (go_quiet (first | (go_at_call 59; (with_reducible refine (slices_partitionEqualOrdered_uint64.calls _ _ x0_1 x1_1 x2_1 x11_16 t117 _ ?side1 ?side2 A37.out).mono ?_); (case side1 => repeat (first | exact (Kd.R_reads' HO_0.out).2.2 | (with_reducible refine Kd.C_alloc ?_ _) | (with_reducible refine Kd.C_drewN ?_ _) | (with_reducible refine Kd.C_drew ?_))); (case side2 => exact (Kd.R_reads' HO_0.out).2.1); rintro e w' ⟨rfl, ⟨nd, rfl⟩⟩; (try first | exact ⟨rfl, _, World.drewN_drewN _ _ _⟩ | exact ⟨rfl, _, Eq.trans (World.drewN_drewN _ _ _) (congrArg (World.drewN _) (Nat.add_assoc _ _ _))⟩))); try go_wp2_with (first | (go_at_call 59; (with_reducible refine (slices_partitionEqualOrdered_uint64.calls _ _ x0_1 x1_1 x2_1 x11_16 t117 _ ?side1 ?side2 A37.out).mono ?_); (case side1 => repeat (first | exact (Kd.R_reads' HO_0.out).2.2 | (with_reducible refine Kd.C_alloc ?_ _) | (with_reducible refine Kd.C_drewN ?_ _) | (with_reducible refine Kd.C_drew ?_))); (case side2 => exact (Kd.R_reads' HO_0.out).2.1); rintro e w' ⟨rfl, ⟨nd, rfl⟩⟩; (try first | exact ⟨rfl, _, World.drewN_drewN _ _ _⟩ | exact ⟨rfl, _, Eq.trans (World.drewN_drewN _ _ _) (congrArg (World.drewN _) (Nat.add_assoc _ _ _))⟩))))
                                go_roundg kj27
                                case measure => have := HK1.out; have := HJ11.out; have := HJ16.out; have := HJ20.out; have := HJ23.out; have := HJ27.out; omega
                                case rel => exact ⟨(x0_1), (t117), (x2_1), (x3_11), (x8_1), (x9_1), (by first | rfl | (simp; done) | (simp [*]; done)), (by first | rfl | (simp; done) | (simp [*]; done)), (by first | rfl | (simp; done) | (simp [*]; done)), (by first | rfl | (simp; done) | (simp [*]; done)), (by first | rfl | (simp; done) | (simp [*]; done)), H', ⟨by have := HK1.out; have := HJ11.out; have := HJ16.out; have := HJ20.out; have := HJ23.out; have := HJ27.out; omega⟩, ⟨by (with_reducible repeat (first | apply Kd.R_alloc | apply Kd.R_drewN | apply Kd.R_drew)); exact HO_0.out⟩, ⟨by repeat (first | (with_reducible first | exact HK.out | apply Kept.alloc | apply Kept.drewN | apply Kept.drew) | exact HK.out)⟩, ⟨by repeat (first | (with_reducible first | exact HB.out | apply below_alloc | apply pw_below_drewN | apply below_drew1) | exact HB.out)⟩⟩
                              · replace c36 := Bool.eq_false_iff.mpr c36
                                subst c36
                                have H1 : ((slices_partitionOrdered_uint64.f x0_1 x1_1 x2_1 x11_16).bind fun bt118 => (if (wrap64 (bt118.1 - x1_1)) < (wrap64 (x2_1 - bt118.1)) then ((slices_pdqsortOrdered_uint64.f kj27 x0_1 x1_1 bt118.1 x3_11).bind fun t120 => (slices_pdqsortOrdered_uint64.l0 kj27 t120 (wrap64 (bt118.1 + 1)) x2_1 x3_11 (decide ((wrap64 (bt118.1 - x1_1)) ≥ (wrap64 (Int.tdiv (wrap64 (x2_1 - x1_1)) 8)))) bt118.2)) else ((slices_pdqsortOrdered_uint64.f kj27 x0_1 (wrap64 (bt118.1 + 1)) x2_1 x3_11).bind fun t121 => (slices_pdqsortOrdered_uint64.l0 kj27 t121 x1_1 bt118.1 x3_11 (decide ((wrap64 (x2_1 - bt118.1)) ≥ (wrap64 (Int.tdiv (wrap64 (x2_1 - x1_1)) 8)))) bt118.2)))) = some r := by rw [if_neg (show ¬ (false = true) by decide)] at H <;> exact H
                                clear H
                                have H := H1
                                clear H1
                                replace H := Option.bind_eq_some_iff.mp H
                                obtain ⟨⟨t118, t119⟩, A380, H⟩ := H
                                replace H : (if (wrap64 (t118 - x1_1)) < (wrap64 (x2_1 - t118)) then ((slices_pdqsortOrdered_uint64.f kj27 x0_1 x1_1 t118 x3_11).bind fun t120 => (slices_pdqsortOrdered_uint64.l0 kj27 t120 (wrap64 (t118 + 1)) x2_1 x3_11 (decide ((wrap64 (t118 - x1_1)) ≥ (wrap64 (Int.tdiv (wrap64 (x2_1 - x1_1)) 8)))) t119)) else ((slices_pdqsortOrdered_uint64.f kj27 x0_1 (wrap64 (t118 + 1)) x2_1 x3_11).bind fun t121 => (slices_pdqsortOrdered_uint64.l0 kj27 t121 x1_1 t118 x3_11 (decide ((wrap64 (x2_1 - t118)) ≥ (wrap64 (Int.tdiv (wrap64 (x2_1 - x1_1)) 8)))) t119))) = some r := H
                                have A38 := Aside0.mk A380
                                clear A380
                                by_cases c39 : (wrap64 (t118 - x1_1)) < (wrap64 (x2_1 - t118))
                                · rw [if_pos c39] at H
                                  have c39b0 : decide ((wrap64 (t118 - x1_1)) < (wrap64 (x2_1 - t118))) = true := decide_eq_true c39
                                  clear c39
                                  replace H := Option.bind_eq_some_iff.mp H
                                  obtain ⟨t120, A400, H⟩ := H
                                  replace H : (slices_pdqsortOrdered_uint64.l0 kj27 t120 (wrap64 (t118 + 1)) x2_1 x3_11 (decide ((wrap64 (t118 - x1_1)) ≥ (wrap64 (Int.tdiv (wrap64 (x2_1 - x1_1)) 8)))) t119) = some r := H
                                  have A40 := Aside0.mk A400
                                  clear A400
                                  have H' := Aside0.mk H
                                  clear H
                                  go_wp2_with (first | (go_at_call 60; (with_reducible refine (slices_partitionOrdered_uint64.calls _ _ x0_1 x1_1 x2_1 x11_16 t118 t119 _ ?side1 ?side2 A38.out).mono ?_); (case side1 => repeat (first | exact (Kd.R_reads' HO_0.out).2.2 | (with_reducible refine Kd.C_alloc ?_ _) | (with_reducible refine Kd.C_drewN ?_ _) | (with_reducible refine Kd.C_drew ?_))); (case side2 => exact (Kd.R_reads' HO_0.out).2.1); rintro e w' ⟨rfl, ⟨nd, rfl⟩⟩; (try first | exact ⟨rfl, _, World.drewN_drewN _ _ _⟩ | exact ⟨rfl, _, Eq.trans (World.drewN_drewN _ _ _) (congrArg (World.drewN _) (Nat.add_assoc _ _ _))⟩)) | (go_at_call 44; (with_reducible refine (ih kj27 (by have := HK1.out; have := HJ11.out; have := HJ16.out; have := HJ20.out; have := HJ23.out; have := HJ27.out; omega) (fun k_ => some k_ = (.slice Ao18 x0_1.length co18 : Value).ownBlock) (.slice Ao18 x0_1.length co18) x0_1 x1_1 t118 x3_11 t120 w0 _ ?side1 ?side2 A40.out).mono ?_); (case side1 => repeat (first | (with_reducible first | exact HB.out | apply below_alloc | apply pw_below_drewN | apply below_drew1) | exact HB.out)); (case side2 => exact Kd.R_tight rfl HO_0.out); rintro e w41 ⟨rfl, hy0, hb, hkp⟩; have n0_ := Aside0.mk (Kd.R_reok rfl hy0 (fun k_ e_ => HO_0.out.1 k_ e_)); have n1_ := Aside0.mk (Kept.then_ (S := (fun k_ => P0_ k_)) (by repeat (first | (with_reducible first | exact HK.out | apply Kept.alloc | apply Kept.drewN | apply Kept.drew) | exact HK.out)) hkp (fun k_ hs_ => (fun e_ => (HO_0.out.1 k_ e_.symm)) hs_)); have n2_ := Aside0.mk (hb); clear HO_0; clear HK; clear HB; have HO_0 := n0_; have HK := n1_; have HB := n2_; clear n0_ n1_ n2_; (try clear hb); (try clear hkp); (try clear hy0)))
                                  repeat (go_quiet (first | (go_at_call 60; (with_reducible refine (slices_partitionOrdered_uint64.calls _ _ x0_1 x1_1 x2_1 x11_16 t118 t119 _ ?side1 ?side2 A38.out).mono ?_); (case side1 => repeat (first | exact (Kd.R_reads' HO_0.out).2.2 | (with_reducible refine Kd.C_alloc ?_ _) | (with_reducible refine Kd.C_drewN ?_ _) | (with_reducible refine Kd.C_drew ?_))); (case side2 => exact (Kd.R_reads' HO_0.out).2.1); rintro e w' ⟨rfl, ⟨nd, rfl⟩⟩; (try first | exact ⟨rfl, _, World.drewN_drewN _ _ _⟩ | exact ⟨rfl, _, Eq.trans (World.drewN_drewN _ _ _) (congrArg (World.drewN _) (Nat.add_assoc _ _ _))⟩)) | (go_at_call 44; (with_reducible refine (ih kj27 (by have := HK1.out; have := HJ11.out; have := HJ16.out; have := HJ20.out; have := HJ23.out; have := HJ27.out; omega) (fun k_ => some k_ = (.slice Ao18 x0_1.length co18 : Value).ownBlock) (.slice Ao18 x0_1.length co18) x0_1 x1_1 t118 x3_11 t120 w0 _ ?side1 ?side2 A40.out).mono ?_); (case side1 => repeat (first | (with_reducible first | exact HB.out | apply below_alloc | apply pw_below_drewN | apply below_drew1) | exact HB.out)); (case side2 => exact Kd.R_tight rfl HO_0.out); rintro e w41 ⟨rfl, hy0, hb, hkp⟩; have n0_ := Aside0.mk (Kd.R_reok rfl hy0 (fun k_ e_ => HO_0.out.1 k_ e_)); have n1_ := Aside0.mk (Kept.then_ (S := (fun k_ => P0_ k_)) (by repeat (first | (with_reducible first | exact HK.out | apply Kept.alloc | apply Kept.drewN | apply Kept.drew) | exact HK.out)) hkp (fun k_ hs_ => (fun e_ => (HO_0.out.1 k_ e_.symm)) hs_)); have n2_ := Aside0.mk (hb); clear HO_0; clear HK; clear HB; have HO_0 := n0_; have HK := n1_; have HB := n2_; clear n0_ n1_ n2_; (try clear hb); (try clear hkp); (try clear hy0))); try go_wp2_with (first | (go_at_call 60; (with_reducible refine (slices_partitionOrdered_uint64.calls _ _ x0_1 x1_1 x2_1 x11_16 t118 t119 _ ?side1 ?side2 A38.out).mono ?_); (case side1 => repeat (first | exact (Kd.R_reads' HO_0.out).2.2 | (with_reducible refine Kd.C_alloc ?_ _) | (with_reducible refine Kd.C_drewN ?_ _) | (with_reducible refine Kd.C_drew ?_))); (case side2 => exact (Kd.R_reads' HO_0.out).2.1); rintro e w' ⟨rfl, ⟨nd, rfl⟩⟩; (try first | exact ⟨rfl, _, World.drewN_drewN _ _ _⟩ | exact ⟨rfl, _, Eq.trans (World.drewN_drewN _ _ _) (congrArg (World.drewN _) (Nat.add_assoc _ _ _))⟩)) | (go_at_call 44; (with_reducible refine (ih kj27 (by have := HK1.out; have := HJ11.out; have := HJ16.out; have := HJ20.out; have := HJ23.out; have := HJ27.out; omega) (fun k_ => some k_ = (.slice Ao18 x0_1.length co18 : Value).ownBlock) (.slice Ao18 x0_1.length co18) x0_1 x1_1 t118 x3_11 t120 w0 _ ?side1 ?side2 A40.out).mono ?_); (case side1 => repeat (first | (with_reducible first | exact HB.out | apply below_alloc | apply pw_below_drewN | apply below_drew1) | exact HB.out)); (case side2 => exact Kd.R_tight rfl HO_0.out); rintro e w41 ⟨rfl, hy0, hb, hkp⟩; have n0_ := Aside0.mk (Kd.R_reok rfl hy0 (fun k_ e_ => HO_0.out.1 k_ e_)); have n1_ := Aside0.mk (Kept.then_ (S := (fun k_ => P0_ k_)) (by repeat (first | (with_reducible first | exact HK.out | apply Kept.alloc | apply Kept.drewN | apply Kept.drew) | exact HK.out)) hkp (fun k_ hs_ => (fun e_ => (HO_0.out.1 k_ e_.symm)) hs_)); have n2_ := Aside0.mk (hb); clear HO_0; clear HK; clear HB; have HO_0 := n0_; have HK := n1_; have HB := n2_; clear n0_ n1_ n2_; (try clear hb); (try clear hkp); (try clear hy0))))
                                  go_roundg kj27
                                  case measure => have := HK1.out; have := HJ11.out; have := HJ16.out; have := HJ20.out; have := HJ23.out; have := HJ27.out; omega
                                  case rel => exact ⟨(t120), (wrap64 (t118 + 1)), (x2_1), (x3_11), (decide ((wrap64 (t118 - x1_1)) ≥ (wrap64 (Int.tdiv (wrap64 (x2_1 - x1_1)) 8)))), (t119), (by first | rfl | (simp; done) | (simp [*]; done)), (by first | rfl | (simp; done) | (simp [*]; done)), (by first | rfl | (simp; done) | (simp [*]; done)), (by first | rfl | (simp; done) | (simp [*]; done)), (by first | rfl | (simp; done) | (simp [*]; done)), H', ⟨by have := HK1.out; have := HJ11.out; have := HJ16.out; have := HJ20.out; have := HJ23.out; have := HJ27.out; omega⟩, ⟨by (with_reducible repeat (first | apply Kd.R_alloc | apply Kd.R_drewN | apply Kd.R_drew)); exact HO_0.out⟩, ⟨by repeat (first | (with_reducible first | exact HK.out | apply Kept.alloc | apply Kept.drewN | apply Kept.drew) | exact HK.out)⟩, ⟨by repeat (first | (with_reducible first | exact HB.out | apply below_alloc | apply pw_below_drewN | apply below_drew1) | exact HB.out)⟩⟩
                                · rw [if_neg c39] at H
                                  have c39b0 : decide ((wrap64 (t118 - x1_1)) < (wrap64 (x2_1 - t118))) = false := decide_eq_false c39
                                  clear c39
                                  replace H := Option.bind_eq_some_iff.mp H
                                  obtain ⟨t121, A420, H⟩ := H
                                  replace H : (slices_pdqsortOrdered_uint64.l0 kj27 t121 x1_1 t118 x3_11 (decide ((wrap64 (x2_1 - t118)) ≥ (wrap64 (Int.tdiv (wrap64 (x2_1 - x1_1)) 8)))) t119) = some r := H
                                  have A42 := Aside0.mk A420
                                  clear A420
                                  have H' := Aside0.mk H
                                  clear H
                                  go_wp2_with (first | (go_at_call 60; (with_reducible refine (slices_partitionOrdered_uint64.calls _ _ x0_1 x1_1 x2_1 x11_16 t118 t119 _ ?side1 ?side2 A38.out).mono ?_); (case side1 => repeat (first | exact (Kd.R_reads' HO_0.out).2.2 | (with_reducible refine Kd.C_alloc ?_ _) | (with_reducible refine Kd.C_drewN ?_ _) | (with_reducible refine Kd.C_drew ?_))); (case side2 => exact (Kd.R_reads' HO_0.out).2.1); rintro e w' ⟨rfl, ⟨nd, rfl⟩⟩; (try first | exact ⟨rfl, _, World.drewN_drewN _ _ _⟩ | exact ⟨rfl, _, Eq.trans (World.drewN_drewN _ _ _) (congrArg (World.drewN _) (Nat.add_assoc _ _ _))⟩)) | (go_at_call 44; (with_reducible refine (ih kj27 (by have := HK1.out; have := HJ11.out; have := HJ16.out; have := HJ20.out; have := HJ23.out; have := HJ27.out; omega) (fun k_ => some k_ = (.slice Ao18 x0_1.length co18 : Value).ownBlock) (.slice Ao18 x0_1.length co18) x0_1 (wrap64 (t118 + 1)) x2_1 x3_11 t121 w0 _ ?side1 ?side2 A42.out).mono ?_); (case side1 => repeat (first | (with_reducible first | exact HB.out | apply below_alloc | apply pw_below_drewN | apply below_drew1) | exact HB.out)); (case side2 => exact Kd.R_tight rfl HO_0.out); rintro e w43 ⟨rfl, hy0, hb, hkp⟩; have n0_ := Aside0.mk (Kd.R_reok rfl hy0 (fun k_ e_ => HO_0.out.1 k_ e_)); have n1_ := Aside0.mk (Kept.then_ (S := (fun k_ => P0_ k_)) (by repeat (first | (with_reducible first | exact HK.out | apply Kept.alloc | apply Kept.drewN | apply Kept.drew) | exact HK.out)) hkp (fun k_ hs_ => (fun e_ => (HO_0.out.1 k_ e_.symm)) hs_)); have n2_ := Aside0.mk (hb); clear HO_0; clear HK; clear HB; have HO_0 := n0_; have HK := n1_; have HB := n2_; clear n0_ n1_ n2_; (try clear hb); (try clear hkp); (try clear hy0)))
                                  repeat (go_quiet (first | (go_at_call 60; (with_reducible refine (slices_partitionOrdered_uint64.calls _ _ x0_1 x1_1 x2_1 x11_16 t118 t119 _ ?side1 ?side2 A38.out).mono ?_); (case side1 => repeat (first | exact (Kd.R_reads' HO_0.out).2.2 | (with_reducible refine Kd.C_alloc ?_ _) | (with_reducible refine Kd.C_drewN ?_ _) | (with_reducible refine Kd.C_drew ?_))); (case side2 => exact (Kd.R_reads' HO_0.out).2.1); rintro e w' ⟨rfl, ⟨nd, rfl⟩⟩; (try first | exact ⟨rfl, _, World.drewN_drewN _ _ _⟩ | exact ⟨rfl, _, Eq.trans (World.drewN_drewN _ _ _) (congrArg (World.drewN _) (Nat.add_assoc _ _ _))⟩)) | (go_at_call 44; (with_reducible refine (ih kj27 (by have := HK1.out; have := HJ11.out; have := HJ16.out; have := HJ20.out; have := HJ23.out; have := HJ27.out; omega) (fun k_ => some k_ = (.slice Ao18 x0_1.length co18 : Value).ownBlock) (.slice Ao18 x0_1.length co18) x0_1 (wrap64 (t118 + 1)) x2_1 x3_11 t121 w0 _ ?side1 ?side2 A42.out).mono ?_); (case side1 => repeat (first | (with_reducible first | exact HB.out | apply below_alloc | apply pw_below_drewN | apply below_drew1) | exact HB.out)); (case side2 => exact Kd.R_tight rfl HO_0.out); rintro e w43 ⟨rfl, hy0, hb, hkp⟩; have n0_ := Aside0.mk (Kd.R_reok rfl hy0 (fun k_ e_ => HO_0.out.1 k_ e_)); have n1_ := Aside0.mk (Kept.then_ (S := (fun k_ => P0_ k_)) (by repeat (first | (with_reducible first | exact HK.out | apply Kept.alloc | apply Kept.drewN | apply Kept.drew) | exact HK.out)) hkp (fun k_ hs_ => (fun e_ => (HO_0.out.1 k_ e_.symm)) hs_)); have n2_ := Aside0.mk (hb); clear HO_0; clear HK; clear HB; have HO_0 := n0_; have HK := n1_; have HB := n2_; clear n0_ n1_ n2_; (try clear hb); (try clear hkp); (try clear hy0))); try go_wp2_with (first | (go_at_call 60; (with_reducible refine (slices_partitionOrdered_uint64.calls _ _ x0_1 x1_1 x2_1 x11_16 t118 t119 _ ?side1 ?side2 A38.out).mono ?_); (case side1 => repeat (first | exact (Kd.R_reads' HO_0.out).2.2 | (with_reducible refine Kd.C_alloc ?_ _) | (with_reducible refine Kd.C_drewN ?_ _) | (with_reducible refine Kd.C_drew ?_))); (case side2 => exact (Kd.R_reads' HO_0.out).2.1); rintro e w' ⟨rfl, ⟨nd, rfl⟩⟩; (try first | exact ⟨rfl, _, World.drewN_drewN _ _ _⟩ | exact ⟨rfl, _, Eq.trans (World.drewN_drewN _ _ _) (congrArg (World.drewN _) (Nat.add_assoc _ _ _))⟩)) | (go_at_call 44; (with_reducible refine (ih kj27 (by have := HK1.out; have := HJ11.out; have := HJ16.out; have := HJ20.out; have := HJ23.out; have := HJ27.out; omega) (fun k_ => some k_ = (.slice Ao18 x0_1.length co18 : Value).ownBlock) (.slice Ao18 x0_1.length co18) x0_1 (wrap64 (t118 + 1)) x2_1 x3_11 t121 w0 _ ?side1 ?side2 A42.out).mono ?_); (case side1 => repeat (first | (with_reducible first | exact HB.out | apply below_alloc | apply pw_below_drewN | apply below_drew1) | exact HB.out)); (case side2 => exact Kd.R_tight rfl HO_0.out); rintro e w43 ⟨rfl, hy0, hb, hkp⟩; have n0_ := Aside0.mk (Kd.R_reok rfl hy0 (fun k_ e_ => HO_0.out.1 k_ e_)); have n1_ := Aside0.mk (Kept.then_ (S := (fun k_ => P0_ k_)) (by repeat (first | (with_reducible first | exact HK.out | apply Kept.alloc | apply Kept.drewN | apply Kept.drew) | exact HK.out)) hkp (fun k_ hs_ => (fun e_ => (HO_0.out.1 k_ e_.symm)) hs_)); have n2_ := Aside0.mk (hb); clear HO_0; clear HK; clear HB; have HO_0 := n0_; have HK := n1_; have HB := n2_; clear n0_ n1_ n2_; (try clear hb); (try clear hkp); (try clear hy0))))
                                  go_roundg kj27
                                  case measure => have := HK1.out; have := HJ11.out; have := HJ16.out; have := HJ20.out; have := HJ23.out; have := HJ27.out; omega
                                  case rel => exact ⟨(t121), (x1_1), (t118), (x3_11), (decide ((wrap64 (x2_1 - t118)) ≥ (wrap64 (Int.tdiv (wrap64 (x2_1 - x1_1)) 8)))), (t119), (by first | rfl | (simp; done) | (simp [*]; done)), (by first | rfl | (simp; done) | (simp [*]; done)), (by first | rfl | (simp; done) | (simp [*]; done)), (by first | rfl | (simp; done) | (simp [*]; done)), (by first | rfl | (simp; done) | (simp [*]; done)), H', ⟨by have := HK1.out; have := HJ11.out; have := HJ16.out; have := HJ20.out; have := HJ23.out; have := HJ27.out; omega⟩, ⟨by (with_reducible repeat (first | apply Kd.R_alloc | apply Kd.R_drewN | apply Kd.R_drew)); exact HO_0.out⟩, ⟨by repeat (first | (with_reducible first | exact HK.out | apply Kept.alloc | apply Kept.drewN | apply Kept.drew) | exact HK.out)⟩, ⟨by repeat (first | (with_reducible first | exact HB.out | apply below_alloc | apply pw_below_drewN | apply below_drew1) | exact HB.out)⟩⟩
def slices_Sort_uint64_uint64.f (k : Nat) (l0 : List Int) : Option (List Int) := (bits_Len.f (IntKind.u64.wrap ((l0.length : Int)))).bind fun t122 => ((slices_pdqsortOrdered_uint64.f k l0 0 (l0.length : Int) t122).bind fun t123 => (some t123))
set_option maxHeartbeats 8000000 in
set_option maxRecDepth 100000 in
theorem slices_Sort_uint64_uint64.calls (k : Nat) (P0_ : Nat → Prop) (u9000_ : Value) (l0 : List Int) (r : List Int) (w0 w : World) (hB : Below w0.heap.size w0 w) (ho0 : Kd.R (Kd.int .u64) 26 w w0.heap.size P0_ u9000_ l0) (h : slices_Sort_uint64_uint64.f k l0 = some r) :
    Calls Try.prog 37 #[u9000_] w fun e w' => e = .returned (.tuple #[]) ∧ Kd.R (Kd.int .u64) 26 w' w0.heap.size (fun k_ => (P0_ k_ ∨ w.heap.size ≤ k_)) u9000_ r ∧ Below w0.heap.size w0 w' ∧ Kept w w' (fun k_ => P0_ k_) := by
  have HO0 := Aside0.mk (show Kd.R (Kd.int .u64) 26 w w0.heap.size (fun k_ => (P0_ k_ ∨ w.heap.size ≤ k_)) u9000_ l0 from Kd.R_mono ho0 (fun k_ hk => (.inl hk)))
  have HK := Aside0.mk (Kept.refl w (fun k_ => P0_ k_))
  have HW0 := Aside0.mk hB.size
  have HB := Aside0.mk hB
  clear hB
  have H : ((bits_Len.f (IntKind.u64.wrap ((l0.length : Int)))).bind fun t122 => ((slices_pdqsortOrdered_uint64.f k l0 0 (l0.length : Int) t122).bind fun t123 => (some t123))) = some r := h
  clear h
  replace H := Option.bind_eq_some_iff.mp H
  obtain ⟨t122, A20, H⟩ := H
  replace H : ((slices_pdqsortOrdered_uint64.f k l0 0 (l0.length : Int) t122).bind fun t123 => (some t123)) = some r := H
  have A2 := Aside0.mk A20
  clear A20
  replace H := Option.bind_eq_some_iff.mp H
  obtain ⟨t123, A30, H⟩ := H
  replace H : (some t123) = some r := H
  have A3 := Aside0.mk A30
  clear A30
  obtain rfl := Option.some.inj H
  obtain ⟨Ao4, co4, eo4⟩ := Kd.R_slice HO0.out
  subst eo4
  go_enter Try.func37, Try.ntmps37
  go_wp2_with (first | ((with_reducible refine gate_callee (f := 45) rfl ?_); refine goesL_ (some 9) rfl rfl Try.func45 (by kernel_rfl) rfl #[.int .u64 (IntKind.u64.wrap ((l0.length : Int)))] rfl (by (try simp only [List.map_toArray, List.map_cons, List.map_nil]); first | done | rfl | (simp only [List.length_drop, List.length_take]; rfl)) ?_; (with_reducible refine (bits_Len.calls (IntKind.u64.wrap ((l0.length : Int))) t122 _ A2.out).mono ?_); rintro e w' ⟨rfl, ⟨nd, rfl⟩⟩; refine ⟨_, rfl, ?_⟩) | ((with_reducible refine gate_callee (f := 44) rfl ?_); refine goesL_ (some 10) rfl rfl Try.func44 (by kernel_rfl) rfl #[.slice Ao4 l0.length co4, .int .i64 0, .int .i64 (l0.length : Int), .int .i64 t122] rfl (by (try simp only [List.map_toArray, List.map_cons, List.map_nil]); first | done | rfl | (simp only [List.length_drop, List.length_take]; rfl)) ?_; (with_reducible refine (slices_pdqsortOrdered_uint64.calls k (fun k_ => some k_ = (.slice Ao4 l0.length co4 : Value).ownBlock) (.slice Ao4 l0.length co4) l0 0 (l0.length : Int) t122 t123 w0 _ ?side1 ?side2 A3.out).mono ?_); (case side1 => repeat (first | (with_reducible first | exact HB.out | apply below_alloc | apply pw_below_drewN | apply below_drew1) | exact HB.out)); (case side2 => exact Kd.R_tight rfl HO0.out); rintro e w5 ⟨rfl, hy0, hb, hkp⟩; refine ⟨_, rfl, ?_⟩; have n0_ := Aside0.mk (Kd.R_reok rfl hy0 (fun k_ e_ => HO0.out.1 k_ e_)); have n1_ := Aside0.mk (Kept.then_ (S := (fun k_ => P0_ k_)) (by repeat (first | (with_reducible first | exact HK.out | apply Kept.alloc | apply Kept.drewN | apply Kept.drew) | exact HK.out)) hkp (fun k_ hs_ => (fun e_ => (HO0.out.1 k_ e_.symm)) hs_)); have n2_ := Aside0.mk (hb); clear HO0; clear HK; clear HB; have HO0 := n0_; have HK := n1_; have HB := n2_; clear n0_ n1_ n2_; (try clear hb); (try clear hkp); (try clear hy0)))
  first | go_end0 | ((try simp only [Exit.inBlock, Exit.then]); refine bodyPost_ret (results_none rfl _ _ _) rfl ?_)
  exact ⟨by first | rfl | (simp [errW_none, errW_some] <;> rfl) | (simp [*, errW_none, errW_some] <;> rfl), by (with_reducible repeat (first | apply Kd.R_alloc | apply Kd.R_drewN | apply Kd.R_drew)); exact HO0.out, by repeat (first | (with_reducible first | exact HB.out | apply below_alloc | apply pw_below_drewN | apply below_drew1) | exact HB.out), by repeat (first | (with_reducible first | exact HK.out | apply Kept.alloc | apply Kept.drewN | apply Kept.drew) | exact HK.out)⟩
end Go.Proofs.Ytcphlhphdpjnfaa.XQ
end
section
namespace Go.Proofs.Ytcphlhphdpjnfaa.XQ
open Go Go.RowKit Go.Proofs.YtcphlhphdpjnfaaW.PrintWords Go.Proofs.YtcphlhphdpjnfaaW.PrintLast Go.Proofs.YtcphlhphdpjnfaaW.PrintMore Go.Proofs.Ytcphlhphdpjnfaa.Given Go.Proofs.Ytcphlhphdpjnfaa.GivenS Go.Proofs.Ytcphlhphdpjnfaa.M
theorem less_eq (a b : Int) : cmp_Less_uint64.f a b = some (decide (a < b)) := by
  unfold cmp_Less_uint64.f cmp_isNaN_uint64.f
  simp
theorem rd_mid (A : List Int) (x : Int) (T : List Int) {i : Int} (hi : i = A.length) : rd (A ++ x :: T) i = x := by
  subst hi
  unfold rd
  rw [Int.toNat_natCast, List.getD_eq_getElem?_getD, List.getElem?_append_right (Nat.le_refl _), Nat.sub_self]
  rfl
theorem ins_l1 {G : List Int → Prop} {n i : Int} {C : List Int} (hi : 0 ≤ i) (hi2 : i < 100)
    (A : List Int) : ∀ (m : Nat) (B : List Int) (v : Int), A.length = m → A.length + B.length < 100 → ((A ++ B).Pairwise (· ≤ ·)) → (∀ b ∈ B, v ≤ b) →
      (∀ L' : List Int, L'.Perm (A ++ v :: B) → L'.Pairwise (· ≤ ·) → ∃ R, G R ∧ Ev (fun k => slices_insertionSortOrdered_uint64.l0 k (L' ++ C) 0 n (i + 1)) R) →
      ∃ R, G R ∧ Ev (fun k => slices_insertionSortOrdered_uint64.l1 k (A ++ v :: (B ++ C)) 0 n i (A.length : Int)) R := by
  have hw1 : wrap64 (i + 1) = i + 1 := w64_id _ (by omega) (by omega)
  intro m
  induction m generalizing A with
  | zero =>
    intro B v hA hl hs hv K
    have : A = [] := List.length_eq_zero_iff.1 hA
    subst this
    obtain ⟨R, hG, K1⟩ := K (v :: B) (List.Perm.refl _) (List.pairwise_cons.2 ⟨hv, hs⟩)
    refine ⟨R, hG, Ev.step (fun k => ?_) K1⟩
    simp only [slices_insertionSortOrdered_uint64.l1]
    rw [if_neg (by simp), hw1]
    rfl
  | succ m ih =>
    intro B v hA hl hs hv K
    obtain ⟨A', u, rfl⟩ : ∃ A' u, A = A' ++ [u] := ⟨A.dropLast, A.getLast (by rintro rfl; cases hA), (List.dropLast_concat_getLast _).symm⟩
    have hA' : A'.length = m := by rw [List.length_append] at hA; simpa using hA
    have hl' : (A' ++ [u]).length = A'.length + 1 := by simp
    have e0 : A' ++ [u] ++ v :: (B ++ C) = A' ++ u :: v :: (B ++ C) := by simp
    have hj : wrap64 (((A' ++ [u]).length : Int) - 1) = (A'.length : Int) := by rw [hl', w64_id _ (by omega) (by omega)]; omega
    have r1 : rd (A' ++ [u] ++ v :: (B ++ C)) ((A' ++ [u]).length : Int) = v := rd_mid _ _ _ rfl
    have r2 : rd (A' ++ [u] ++ v :: (B ++ C)) (A'.length : Int) = u := by rw [e0]; exact rd_mid _ _ _ rfl
    have lt1 : ((A' ++ [u]).length : Int) < ((A' ++ [u] ++ v :: (B ++ C)).length : Int) := by simp; omega
    have lt2 : (A'.length : Int) < ((A' ++ [u] ++ v :: (B ++ C)).length : Int) := by rw [hl'] at lt1; omega
    have p1 : ((A' ++ [u]).length : Int) > 0 := by omega
    have p2 : (0 : Int) ≤ ((A' ++ [u]).length : Int) := by omega
    have p3 : (0 : Int) ≤ (A'.length : Int) := by omega
    by_cases c : v < u
    · have hs' : (A' ++ (u :: B)).Pairwise (· ≤ ·) := by have := hs; rw [List.append_assoc] at this; exact this
      obtain ⟨R, hG, IH⟩ := ih A' (u :: B) v hA' (by simp at hl ⊢; omega) hs' (fun b hb => by
        rcases List.mem_cons.1 hb with rfl | hb
        · omega
        · exact hv b hb) (fun L' hp hso => K L' (hp.trans (by
          rw [List.append_assoc]
          exact List.Perm.append_left A' (List.Perm.swap _ _ _))) hso)
      have es : ((A' ++ [u] ++ v :: (B ++ C)).set ((A' ++ [u]).length : Int).toNat u).set (A'.length : Int).toNat v = A' ++ v :: (u :: B ++ C) := by
        rw [Int.toNat_natCast, Int.toNat_natCast, hl', e0]
        rw [List.set_append_right _ _ (by omega), List.set_append_right _ _ (by omega)]
        simp
      refine ⟨R, hG, Ev.step (fun k => ?_) IH⟩
      simp only [slices_insertionSortOrdered_uint64.l1]
      rw [if_pos p1, if_pos p2, if_pos lt1, hj, if_pos p3, if_pos lt2, r1, r2, less_eq, decide_eq_true c, es]
      rfl
    · have hs2 : (A' ++ [u] ++ v :: B).Pairwise (· ≤ ·) := by
        rw [List.pairwise_append] at hs ⊢
        obtain ⟨h1, h2, h3⟩ := hs
        refine ⟨h1, List.pairwise_cons.2 ⟨hv, h2⟩, fun a ha b hb => ?_⟩
        rcases List.mem_cons.1 hb with rfl | hb
        · rw [List.pairwise_append] at h1
          rcases List.mem_append.1 ha with ha | ha
          · have := h1.2.2 a ha u (by simp); omega
          · have : a = u := by simpa using ha
            omega
        · exact h3 a ha b hb
      obtain ⟨R, hG, K1⟩ := K _ (List.Perm.refl _) hs2
      have e1 : A' ++ [u] ++ v :: B ++ C = A' ++ [u] ++ v :: (B ++ C) := by simp
      rw [e1] at K1
      refine ⟨R, hG, Ev.step (fun k => ?_) K1⟩
      simp only [slices_insertionSortOrdered_uint64.l1]
      rw [if_pos p1, if_pos p2, if_pos lt1, hj, if_pos p3, if_pos lt2, r1, r2, less_eq, decide_eq_false c, hw1]
      rfl
theorem ins_l0 {ss : List Int} (hn : ss.length ≤ 12) (C : List Int) : ∀ P : List Int, P ≠ [] → (P ++ C).Perm ss → P.Pairwise (· ≤ ·) →
    ∃ L : List Int, (L.Perm ss ∧ L.Pairwise (· ≤ ·)) ∧ Ev (fun k => slices_insertionSortOrdered_uint64.l0 k (P ++ C) 0 (ss.length : Int) (P.length : Int)) L := by
  induction C with
  | nil =>
    intro P _ hp hs
    rw [List.append_nil] at hp
    have hl := hp.length_eq
    refine ⟨P, ⟨hp, hs⟩, ?_⟩
    rw [List.append_nil]
    refine Ev.step (f := fun _ => some P) (fun k => ?_) (Ev.now _)
    simp only [slices_insertionSortOrdered_uint64.l0]
    rw [if_neg (by omega)]
  | cons v C ih =>
    intro P hP hp hs
    have hl := hp.length_eq
    rw [List.length_append, List.length_cons] at hl
    obtain ⟨R, hG, E⟩ := ins_l1 (G := fun L => L.Perm ss ∧ L.Pairwise (· ≤ ·)) (n := (ss.length : Int)) (i := (P.length : Int)) (C := C) (by omega) (by omega) P P.length [] v rfl (by simp; omega) (by simpa using hs) (by simp) (fun L' hp' hs' => by
      have hl' := hp'.length_eq
      rw [List.length_append] at hl'
      have IH := ih L' (by rintro rfl; simp at hl') ((List.Perm.append_right C hp').trans (by simpa using hp)) hs'
      rw [show (P.length : Int) + 1 = (L'.length : Int) by simp at hl'; omega]
      exact IH)
    refine ⟨R, hG, Ev.step (fun k => ?_) E⟩
    simp only [slices_insertionSortOrdered_uint64.l0]
    rw [if_pos (by omega)]
    rfl
theorem sort_ev (ss : List Int) (hn : ss.length ≤ 12) : ∃ (k : Nat) (L : List Int), slices_Sort_uint64_uint64.f k ss = some L ∧ L.Perm ss ∧ L.Pairwise (· ≤ ·) := by
  have key : ∃ L : List Int, (L.Perm ss ∧ L.Pairwise (· ≤ ·)) ∧ Ev (fun k => slices_insertionSortOrdered_uint64.l0 k ss 0 (ss.length : Int) 1) L := by
    match ss, hn with
    | [], _ =>
      refine ⟨[], ⟨List.Perm.refl _, List.Pairwise.nil⟩, Ev.step (f := fun _ => some []) (fun k => ?_) (Ev.now _)⟩
      simp only [slices_insertionSortOrdered_uint64.l0]
      rw [if_neg (by simp)]
    | x :: t, hn => exact ins_l0 hn t [x] (by simp) (List.Perm.refl _) (by simp)
  obtain ⟨L, ⟨hp, hs⟩, E⟩ := key
  have hw : wrap64 ((0 : Int) + 1) = 1 := w64_id _ (by omega) (by omega)
  have hw2 : wrap64 ((ss.length : Int) - 0) = (ss.length : Int) := by rw [w64_id _ (by omega) (by omega)]; omega
  have hb : ∃ b, bits_Len.f (IntKind.u64.wrap ((ss.length : Int))) = some b := by
    rw [wu64_id _ (by omega) (by omega)]
    unfold bits_Len.f
    rw [if_pos (by omega)]
    exact ⟨_, rfl⟩
  obtain ⟨b, hb⟩ := hb
  have E3 : Ev (fun k => slices_Sort_uint64_uint64.f k ss) L := by
    have E2 : Ev (fun k => slices_pdqsortOrdered_uint64.f k ss 0 (ss.length : Int) b) L := by
      have E1 : ∀ x8 x9, Ev (fun k => slices_pdqsortOrdered_uint64.l0 k ss 0 (ss.length : Int) b x8 x9) L := fun x8 x9 => by
        refine Ev.step (f := fun k => (slices_insertionSortOrdered_uint64.f k ss 0 (ss.length : Int)).bind fun t110 => (some t110)) (fun k => ?_) (Ev.bind (Ev.congr (fun k => ?_) E) (Ev.now _))
        · simp only [slices_pdqsortOrdered_uint64.l0]
          rw [hw2, if_pos (by omega)]
        · simp only [slices_insertionSortOrdered_uint64.f]
          rw [hw]
      exact Ev.step (fun k => by simp only [slices_pdqsortOrdered_uint64.f]) (E1 true true)
    exact Ev.congr (fun k => by simp only [slices_Sort_uint64_uint64.f]; rw [hb]; rfl) (Ev.bind E2 (Ev.now _))
  obtain ⟨k, hk⟩ := Ev.rounds E3
  exact ⟨k, L, hk, hp, hs⟩
end Go.Proofs.Ytcphlhphdpjnfaa.XQ
end
section
namespace Go.Proofs.Ytcphlhphdpjnfaa.Mont
open Go Go.RowKit Go.Proofs.YtcphlhphdpjnfaaW.PrintWords Go.Proofs.YtcphlhphdpjnfaaW.PrintLast Go.Proofs.YtcphlhphdpjnfaaW.PrintMore Go.Proofs.Ytcphlhphdpjnfaa.Given Go.Proofs.Ytcphlhphdpjnfaa.M Go.Proofs.Ytcphlhphdpjnfaa.XS
def CtxBlk (W : World) (g : Nat) (m t : Int) : Prop := W.heap[g]? = some (.cells #[.int .u64 m, .int .u64 t, .int .u64 (mOne m), .int .u64 (mSq m)] 93 (0, 0))
def IsCtx (W : World) (v : Value) (m : Int) : Prop := ∃ (g : Nat) (t : Int), v = .pointer (some ⟨g, 0, none⟩) ∧ CtxBlk W g m t ∧ GoodM m ∧ U t ∧ (18446744073709551616 : Int) ∣ m * t + 1
def CtxP (W : World) (v : Value) : Option Int → Prop
  | none => v = .pointer none
  | some m => IsCtx W v m
theorem IsCtx.below {W W1 : World} {v : Value} {m : Int} (h : IsCtx W v m) (hb : Below W.heap.size W W1) : IsCtx W1 v m := by
  obtain ⟨g, t, e, hc, r⟩ := h
  exact ⟨g, t, e, blk_below hc hb, r⟩
theorem CtxP.below {W W1 : World} {v : Value} {o : Option Int} (h : CtxP W v o) (hb : Below W.heap.size W W1) : CtxP W1 v o := by
  cases o with
  | none => exact h
  | some m => exact IsCtx.below h hb
theorem IsCtx.drewN {W : World} {v : Value} {m : Int} (h : IsCtx W v m) (n : Nat) : IsCtx (W.drewN n) v m := h
section
variable {W : World} {g : Nat} {m t : Int} (h : CtxBlk W g m t)
include h
theorem CtxBlk.c0 : W.cell? ⟨g, 0, none⟩ = some (.int .u64 m) := (blk_cell h 0).trans rfl
theorem CtxBlk.c1 : W.cell? ⟨g, 1, none⟩ = some (.int .u64 t) := (blk_cell h 1).trans rfl
theorem CtxBlk.c2 : W.cell? ⟨g, 2, none⟩ = some (.int .u64 (mOne m)) := (blk_cell h 2).trans rfl
theorem CtxBlk.c3 : W.cell? ⟨g, 3, none⟩ = some (.int .u64 (mSq m)) := (blk_cell h 3).trans rfl
end
set_option maxHeartbeats 1000000 in
theorem cut_calls {g : Nat} {m t x r : Int} {w : World} (hc : CtxBlk w g m t) (hm : GoodM m) (hx : U x) (hr : Aside0 (r = x % m)) :
    Calls Try.prog 75 #[.pointer (some ⟨g, 0, none⟩), .int .u64 x] w fun e w' => e = .returned (.int .u64 r) ∧ Drawn0 w w' := by
  have h0 := hc.c0
  have f0 := blk_frozen hc 0
  clear hc
  by_cases h1 : m ≤ x
  · have hb : decide (m ≤ x) = true := decide_eq_true h1
    have hz : (m == 0) = false := beq_eq_false_iff_ne.mpr (good_ne hm)
    have hz1 : ¬ m = 0 := good_ne hm
    have hx0 : 0 ≤ x := hx.1
    clear hm hx h1
    go_enter Try.func75, Try.ntmps75
    go_wp2
    go_ret
    exact ⟨by rw [hr.out] <;> first | rfl | (simp; done), Drawn0.refl _⟩
  · have hb : decide (m ≤ x) = false := decide_eq_false h1
    have he : x % m = x := Int.emod_eq_of_lt hx.1 (by omega)
    have hr' := Aside0.mk (hr.out.trans he)
    clear hm hx h1 he
    go_enter Try.func75, Try.ntmps75
    go_wp2
    go_ret
    exact ⟨by rw [hr'.out] <;> first | rfl | (simp; done), Drawn0.refl _⟩
set_option maxHeartbeats 2000000 in
theorem reduce_calls {g : Nat} {m t hi lo r : Int} {w : World} (hc : CtxBlk w g m t) (hm : GoodM m) (hd : (18446744073709551616 : Int) ∣ m * t + 1) (h0 : 0 ≤ hi) (h1 : hi < m) (hl : U lo) (hr : Aside0 (r = mOut m (hi * 18446744073709551616 + lo))) :
    Calls Try.prog 74 #[.pointer (some ⟨g, 0, none⟩), .int .u64 hi, .int .u64 lo] w fun e w' => e = .returned (.int .u64 r) ∧ Drawn0 w w' := by
  obtain ⟨q, hq⟩ : ∃ q, q = lo * t % 18446744073709551616 := ⟨_, rfl⟩
  obtain ⟨P, hP⟩ : ∃ P, P = q * m := ⟨_, rfl⟩
  obtain ⟨h, hh⟩ : ∃ h, h = P / 18446744073709551616 := ⟨_, rfl⟩
  obtain ⟨l, hll⟩ : ∃ l, l = P % 18446744073709551616 := ⟨_, rfl⟩
  obtain ⟨c, hcc⟩ : ∃ c, c = (lo + l) / 18446744073709551616 := ⟨_, rfl⟩
  obtain ⟨T, hT⟩ : ∃ T, T = hi + h + c := ⟨_, rfl⟩
  obtain ⟨r0, r1, r2, r3, r4, r5, r6, r7⟩ := redc hm hd h0 h1 hl.1 hl.2 hq hP hh hll hcc hT
  have hend := redc_end r5 r6 r7
  have hmU := good_U hm
  have hq0 : U q := by rw [hq]; unfold U; omega
  have hw : IntKind.u64.wrap (lo * t) = q := by rw [wu64, hq]
  have m1 : bits_Mul64.f (IntKind.u64.wrap (lo * t)) m = some (h, l) := by
    unfold bits_Mul64.f
    rw [hw, if_pos ⟨hq0.1, hq0.2, hmU.1, hmU.2⟩, hh, hll, hP]
  obtain ⟨s1, a1⟩ : ∃ s1, bits_Add64.f lo l 0 = some (s1, c) := by
    refine ⟨(lo + l + 0) % 18446744073709551616, ?_⟩
    unfold bits_Add64.f
    rw [if_pos ⟨hl.1, r1, by omega, by omega⟩, hcc, Int.add_zero]
  obtain ⟨c2, a2⟩ : ∃ c2, bits_Add64.f hi h c = some (T, c2) := by
    refine ⟨(hi + h + c) / 18446744073709551616, ?_⟩
    unfold bits_Add64.f
    rw [if_pos ⟨h0, r0, r3, r4⟩, ← hT, Int.emod_eq_of_lt r5 (by unfold GoodM at hm; omega)]
  have x1 := fun W => bits_Add64.run lo l 0 s1 c W a1
  have x2 := fun W => bits_Add64.run hi h c T c2 W a2
  have M1 := Aside0.mk m1
  have k0 := hc.c0
  have k1 := hc.c1
  have f0 := blk_frozen hc 0
  have f1 := blk_frozen hc 1
  by_cases hTm : m ≤ T
  · have hb : decide (m ≤ T) = true := decide_eq_true hTm
    have e1 : r = IntKind.u64.wrap (T - m) := by rw [hr.out, ← hend, if_pos hTm, wu64_id _ (by omega) (by unfold GoodM at hm; omega)]
    have E1 := Aside0.mk e1
    clear e1 hc hm hd h0 h1 hl hr hq hP hh hll hcc hT r0 r1 r2 r3 r4 r5 r6 r7 hend hmU hq0 hw m1 a1 a2 hTm
    go_enter Try.func74, Try.ntmps74
    go_wp2
    repeat (go_quiet (first | (go_at_call 41; (with_reducible refine (bits_Mul64.calls _ _ h l _ M1.out).mono ?_); rintro e w' ⟨rfl, ⟨nd, rfl⟩⟩; (try first | exact qA | exact qB))); try go_wp2)
    go_ret
    exact ⟨by rw [E1.out] <;> first | rfl | (simp; done), by repeat (first | exact Drawn0.refl _ | apply Drawn0.step)⟩
  · have hb : decide (m ≤ T) = false := decide_eq_false hTm
    have e1 : r = T := by rw [hr.out, ← hend, if_neg hTm]
    have E1 := Aside0.mk e1
    clear e1 hc hm hd h0 h1 hl hr hq hP hh hll hcc hT r0 r1 r2 r3 r4 r5 r6 r7 hend hmU hq0 hw m1 a1 a2 hTm
    go_enter Try.func74, Try.ntmps74
    go_wp2
    repeat (go_quiet (first | (go_at_call 41; (with_reducible refine (bits_Mul64.calls _ _ h l _ M1.out).mono ?_); rintro e w' ⟨rfl, ⟨nd, rfl⟩⟩; (try first | exact qA | exact qB))); try go_wp2)
    go_ret
    exact ⟨by rw [E1.out] <;> first | rfl | (simp; done), by repeat (first | exact Drawn0.refl _ | apply Drawn0.step)⟩
theorem mul64_calls {x y h l : Int} {w : World} (hr : Aside0 (bits_Mul64.f x y = some (h, l))) :
    Calls Try.prog 41 #[.int .u64 x, .int .u64 y] w fun e w' => e = .returned (.tuple #[.int .u64 h, .int .u64 l]) ∧ Drawn0 w w' :=
  bits_Mul64.calls x y h l w hr.out
set_option maxHeartbeats 2000000 in
theorem Mul_some {v : Value} {m x y r : Int} {w : World} (hc : IsCtx w v m) (hx : U x) (hy : U y) (hr : Aside0 (r = mMul m x y)) :
    Calls Try.prog 65 #[v, .int .u64 x, .int .u64 y] w fun e w' => e = .returned (.int .u64 r) ∧ Drawn0 w w' := by
  obtain ⟨g, t, rfl, hb, hm, ht, hd⟩ := hc
  obtain ⟨x', hx'⟩ : ∃ x', x' = x % m := ⟨_, rfl⟩
  obtain ⟨y', hy'⟩ : ∃ y', y' = y % m := ⟨_, rfl⟩
  have ux := U_mod hm x
  have uy := U_mod hm y
  have lx := lt_mod hm x
  have ly := lt_mod hm y
  rw [← hx'] at ux lx
  rw [← hy'] at uy ly
  have p0 : 0 ≤ x' * y' := Int.mul_nonneg ux.1 uy.1
  have p1 : x' * y' ≤ (m - 1) * (m - 1) := Int.mul_le_mul (by omega) (by omega) uy.1 (by unfold GoodM at hm; omega)
  have p2 : (m - 1) * (m - 1) < m * 18446744073709551616 := by
    have : (m - 1) * (m - 1) ≤ (m - 1) * 18446744073709551616 := Int.mul_le_mul_of_nonneg_left (by unfold GoodM at hm; omega) (by unfold GoodM at hm; omega)
    unfold GoodM at hm; omega
  obtain ⟨h, hh⟩ : ∃ h, h = x' * y' / 18446744073709551616 := ⟨_, rfl⟩
  obtain ⟨l, hl⟩ : ∃ l, l = x' * y' % 18446744073709551616 := ⟨_, rfl⟩
  have M1 : Aside0 (bits_Mul64.f x' y' = some (h, l)) := ⟨by unfold bits_Mul64.f; rw [if_pos ⟨ux.1, ux.2, uy.1, uy.2⟩, hh, hl]⟩
  have R1 : Aside0 (r = mOut m (h * 18446744073709551616 + l)) := ⟨by
    rw [hr.out, ← mMul_rest, ← hx', ← hy', hh, hl]; congr 1; omega⟩
  have X1 := Aside0.mk hx'
  have Y1 := Aside0.mk hy'
  have h0 : 0 ≤ h := by rw [hh]; omega
  have h1 : h < m := by rw [hh]; omega
  have lU : U l := by rw [hl]; unfold U; omega
  have HB := Aside0.mk hb
  have HN : Aside0 (∀ n, CtxBlk (w.drewN n) g m t) := ⟨fun _ => hb⟩
  have HM := Aside0.mk hm
  have HD := Aside0.mk hd
  have HX := Aside0.mk hx
  have HY := Aside0.mk hy
  have H0 := Aside0.mk h0
  have H1 := Aside0.mk h1
  have HL := Aside0.mk lU
  clear hx' hy' ux uy lx ly p0 p1 p2 hh hl h0 h1 lU hb hm ht hd hx hy hr
  go_enter Try.func65, Try.ntmps65
  go_wp2_with (first
    | (go_at_call 75; (with_reducible refine (cut_calls HB.out HM.out HX.out X1).mono ?_); rintro e w' ⟨rfl, ⟨nd, rfl⟩⟩; (try first | exact qA | exact qB))
    | (go_at_call 75; (with_reducible refine (cut_calls (HN.out _) HM.out HX.out X1).mono ?_); rintro e w' ⟨rfl, ⟨nd, rfl⟩⟩; (try first | exact qA | exact qB))
    | (go_at_call 75; (with_reducible refine (cut_calls HB.out HM.out HY.out Y1).mono ?_); rintro e w' ⟨rfl, ⟨nd, rfl⟩⟩; (try first | exact qA | exact qB))
    | (go_at_call 75; (with_reducible refine (cut_calls (HN.out _) HM.out HY.out Y1).mono ?_); rintro e w' ⟨rfl, ⟨nd, rfl⟩⟩; (try first | exact qA | exact qB))
    | (go_at_call 41; (with_reducible refine (mul64_calls M1).mono ?_); rintro e w' ⟨rfl, ⟨nd, rfl⟩⟩; (try first | exact qA | exact qB))
    | (go_at_call 74; (with_reducible refine (reduce_calls HB.out HM.out HD.out H0.out H1.out HL.out R1).mono ?_); rintro e w' ⟨rfl, ⟨nd, rfl⟩⟩; (try first | exact qA | exact qB))
    | (go_at_call 74; (with_reducible refine (reduce_calls (HN.out _) HM.out HD.out H0.out H1.out HL.out R1).mono ?_); rintro e w' ⟨rfl, ⟨nd, rfl⟩⟩; (try first | exact qA | exact qB))
    )
  go_ret
  exact ⟨by first | rfl | (simp; done), by repeat (first | exact Drawn0.refl _ | apply Drawn0.step)⟩
set_option maxHeartbeats 2000000 in
theorem In_some {v : Value} {m x r : Int} {w : World} (hc : IsCtx w v m) (hx : U x) (hr : Aside0 (r = mIn m x)) :
    Calls Try.prog 48 #[v, .int .u64 x] w fun e w' => e = .returned (.int .u64 r) ∧ Drawn0 w w' := by
  have hc' := hc
  obtain ⟨g, t, rfl, hb, hm, ht, hd⟩ := hc'
  obtain ⟨s, hs⟩ : ∃ s, s = mSq m := ⟨_, rfl⟩
  have us : U s := by rw [hs]; exact U_mod hm _
  have R1 : Aside0 (r = mMul m x s) := ⟨by rw [hr.out, hs, mMul_sq hm]⟩
  have k3 := hb.c3
  have f3 := blk_frozen hb 3
  rw [← hs] at k3
  have HB := Aside0.mk hc
  have HN : Aside0 (∀ n, IsCtx (w.drewN n) (.pointer (some ⟨g, 0, none⟩)) m) := ⟨fun _ => hc⟩
  have HX := Aside0.mk hx
  have HL := Aside0.mk us
  clear us hs hb hm ht hd hx hr hc
  go_enter Try.func48, Try.ntmps48
  go_wp2_with (first
    | (go_at_call 65; (with_reducible refine (Mul_some HB.out HX.out HL.out R1).mono ?_); rintro e w' ⟨rfl, ⟨nd, rfl⟩⟩; (try first | exact qA | exact qB))
    | (go_at_call 65; (with_reducible refine (Mul_some (HN.out _) HX.out HL.out R1).mono ?_); rintro e w' ⟨rfl, ⟨nd, rfl⟩⟩; (try first | exact qA | exact qB))
    )
  go_ret
  exact ⟨by first | rfl | (simp; done), by repeat (first | exact Drawn0.refl _ | apply Drawn0.step)⟩
theorem One_some {v : Value} {m r : Int} {w : World} (hc : IsCtx w v m) (hr : Aside0 (r = mOne m)) :
    Calls Try.prog 50 #[v] w fun e w' => e = .returned (.int .u64 r) ∧ Drawn0 w w' := by
  obtain ⟨g, t, rfl, hb, hm, ht, hd⟩ := hc
  have k2 := hb.c2
  have f2 := blk_frozen hb 2
  rw [← hr.out] at k2
  clear hb hm ht hd hr
  go_enter Try.func50, Try.ntmps50
  go_wp2
  go_ret
  exact ⟨by first | rfl | (simp; done), by repeat (first | exact Drawn0.refl _ | apply Drawn0.step)⟩
end Go.Proofs.Ytcphlhphdpjnfaa.Mont
end
section
namespace Go.Proofs.Ytcphlhphdpjnfaa.Mont
open Go Go.RowKit Go.Proofs.YtcphlhphdpjnfaaW.PrintWords Go.Proofs.YtcphlhphdpjnfaaW.PrintLast Go.Proofs.YtcphlhphdpjnfaaW.PrintMore Go.Proofs.Ytcphlhphdpjnfaa.Given Go.Proofs.Ytcphlhphdpjnfaa.M Go.Proofs.Ytcphlhphdpjnfaa.XS
def powRest (m o x : Int) (e : Nat) : Int := o * (x * rinv m) ^ e % m
theorem powRest_zero {m o x : Int} (h : o % m = o) : powRest m o x 0 = o := by unfold powRest; rw [Int.pow_zero, Int.mul_one, h]
theorem powRest_start (m x e : Int) : powRest m (mOne m) x e.toNat = mPow m x e := by
  unfold powRest mOne mPow; rw [emod_mul_l, Int.mul_comm]
theorem sq_rinv (m x : Int) : mMul m x x * rinv m % m = (x * rinv m) * (x * rinv m) % m := by
  unfold mMul
  rw [emod_mul_l]
  congr 1
  rw [Int.mul_assoc (x * x), Int.mul_mul_mul_comm_]
theorem powRest_even {m o x : Int} {e : Nat} (h : e % 2 = 0) : powRest m o (mMul m x x) (e / 2) = powRest m o x e := by
  unfold powRest
  rw [← emod_mul_r, ← emod_pow, sq_rinv, emod_pow, emod_mul_r, pow_half _ _ h]
theorem powRest_odd {m o x : Int} {e : Nat} (h : e % 2 = 1) : powRest m (mMul m o x) (mMul m x x) (e / 2) = powRest m o x e := by
  unfold powRest
  rw [← emod_mul_r, ← emod_pow, sq_rinv, emod_pow, emod_mul_r]
  unfold mMul
  rw [emod_mul_l, Int.mul_assoc o x, Int.mul_assoc o, pow_half1 _ _ h]
set_option maxHeartbeats 4000000 in
theorem Pow_some {v : Value} {m x e r : Int} {w : World} (hc : IsCtx w v m) (hx : U x) (he : U e) (hr : Aside0 (r = mPow m x e)) :
    Calls Try.prog 49 #[v, .int .u64 x, .int .u64 e] w fun e w' => e = .returned (.int .u64 r) ∧ Drawn0 w w' := by
  have hc' := hc
  obtain ⟨g, t, rfl, hb, hm, ht, hd⟩ := hc'
  obtain ⟨o, ho⟩ : ∃ o, o = mOne m := ⟨_, rfl⟩
  have k2 := hb.c2
  have f2 := blk_frozen hb 2
  rw [← ho] at k2
  have hI : U x ∧ U e ∧ U o ∧ o % m = o ∧ powRest m o x e.toNat = r := ⟨hx, he, by rw [ho]; exact U_mod hm _, by rw [ho]; exact Int.emod_emod _ _, by rw [ho, powRest_start, hr.out]⟩
  have HI := Aside0.mk hI
  have HB := Aside0.mk hc
  have HN : Aside0 (∀ n, IsCtx (w.drewN n) (.pointer (some ⟨g, 0, none⟩)) m) := ⟨fun _ => hc⟩
  have HM := Aside0.mk hm
  clear hI ho hb hm ht hd hx he hr hc
  go_enter Try.func49, Try.ntmps49
  go_wp2
  go_loopw [1, 2, 7] (fun a b c wr => ∃ X E O : Int, a = .int .u64 X ∧ b = .int .u64 E ∧ c = .int .u64 O ∧ Aside0 (U X ∧ U E ∧ U O ∧ O % m = O ∧ powRest m O X E.toNat = r) ∧ Drawn0 w wr) (fun _ b _ _ => (intOf b).toNat)
  case atStart => exact ⟨_, _, _, rfl, rfl, rfl, HI, Drawn0.refl _⟩
  case round =>
    clear HI k2 f2
    obtain ⟨X, E, O, rfl, rfl, rfl, HI, ⟨n, rfl⟩⟩ := hrel
    have hm := HM.out
    obtain ⟨uX, uE, uO, hO, hP⟩ := HI.out
    obtain ⟨X2, hX2⟩ : ∃ X2, X2 = mMul m X X := ⟨_, rfl⟩
    have S1 := Aside0.mk hX2
    have UX := Aside0.mk uX
    have UO := Aside0.mk uO
    by_cases h0 : 0 < E
    · have p0 : decide (0 < E) = true := decide_eq_true h0
      have hE0 : 0 ≤ E := by omega
      have hlt : (E / 2).toNat < E.toNat := by omega
      have hdv : (E / 2).toNat = E.toNat / 2 := by omega
      have uX2 : U X2 := by rw [hX2]; exact U_mod hm _
      have uE2 : U (E / 2) := by unfold U at *; omega
      have HLT := Aside0.mk hlt
      by_cases h1 : E % 2 = 1
      · have b1 : (Go.bits .and .u64 E 1 == 1) = true := by rw [and1 E uE, h1]; rfl
        obtain ⟨O2, hO2⟩ : ∃ O2, O2 = mMul m O X := ⟨_, rfl⟩
        have S2 := Aside0.mk hO2
        have HI' : Aside0 (U X2 ∧ U (E / 2) ∧ U O2 ∧ O2 % m = O2 ∧ powRest m O2 X2 (E / 2).toNat = r) :=
          ⟨uX2, uE2, by rw [hO2]; exact U_mod hm _, by rw [hO2]; exact Int.emod_emod _ _, by rw [hO2, hX2, hdv, powRest_odd (by omega), hP]⟩
        clear h0 hlt hdv uX2 uE2 h1 hO2 uX uE uO hO hP hX2 hm HI
        go_wp2_with (first
          | (go_at_call 65; (with_reducible refine (Mul_some HB.out UO.out UX.out S2).mono ?_); rintro e w' ⟨rfl, ⟨nd, rfl⟩⟩; (try first | exact qA | exact qB))
          | (go_at_call 65; (with_reducible refine (Mul_some (HN.out _) UO.out UX.out S2).mono ?_); rintro e w' ⟨rfl, ⟨nd, rfl⟩⟩; (try first | exact qA | exact qB))
          | (go_at_call 65; (with_reducible refine (Mul_some HB.out UX.out UX.out S1).mono ?_); rintro e w' ⟨rfl, ⟨nd, rfl⟩⟩; (try first | exact qA | exact qB))
          | (go_at_call 65; (with_reducible refine (Mul_some (HN.out _) UX.out UX.out S1).mono ?_); rintro e w' ⟨rfl, ⟨nd, rfl⟩⟩; (try first | exact qA | exact qB))
          )
        go_roundw
        case rel => exact ⟨X2, E / 2, O2, rfl, by first | rfl | (simp; done), rfl, HI', by repeat (first | exact Drawn0.refl _ | apply Drawn0.step)⟩
        case measure => simp [intOf]; have := HLT.out; omega
      · have b1 : (Go.bits .and .u64 E 1 == 1) = false := by rw [and1 E uE]; exact beq_eq_false_iff_ne.mpr h1
        have HI' : Aside0 (U X2 ∧ U (E / 2) ∧ U O ∧ O % m = O ∧ powRest m O X2 (E / 2).toNat = r) :=
          ⟨uX2, uE2, uO, hO, by rw [hX2, hdv, powRest_even (by omega), hP]⟩
        clear h0 hlt hdv uX2 uE2 h1 uX uE uO hO hP hX2 hm HI
        go_wp2_with (first
          | (go_at_call 65; (with_reducible refine (Mul_some HB.out UX.out UX.out S1).mono ?_); rintro e w' ⟨rfl, ⟨nd, rfl⟩⟩; (try first | exact qA | exact qB))
          | (go_at_call 65; (with_reducible refine (Mul_some (HN.out _) UX.out UX.out S1).mono ?_); rintro e w' ⟨rfl, ⟨nd, rfl⟩⟩; (try first | exact qA | exact qB))
          )
        go_roundw
        case rel => exact ⟨X2, E / 2, O, rfl, by first | rfl | (simp; done), rfl, HI', by repeat (first | exact Drawn0.refl _ | apply Drawn0.step)⟩
        case measure => simp [intOf]; have := HLT.out; omega
    · have p0 : decide (0 < E) = false := decide_eq_false h0
      have hz : E.toNat = 0 := by omega
      have HR : Aside0 (O = r) := ⟨by rw [← hP, hz, powRest_zero hO]⟩
      clear h0 hz uX uE uO hO hP hX2 hm HI
      go_wp2
      go_ret
      exact ⟨by rw [HR.out] <;> first | rfl | (simp; done), by repeat (first | exact Drawn0.refl _ | apply Drawn0.step)⟩
def newtonD : Nat → Int
  | 0 => 8
  | 1 => 64
  | 2 => 4096
  | 3 => 16777216
  | 4 => 281474976710656
  | _ => 18446744073709551616
theorem newton_step {m x : Int} (i : Nat) (hi : i < 5) (hx : newtonD i ∣ m * x - 1) :
    newtonD (i + 1) ∣ m * IntKind.u64.wrap (x * IntKind.u64.wrap (2 - IntKind.u64.wrap (m * x))) - 1 := by
  have h : i = 0 ∨ i = 1 ∨ i = 2 ∨ i = 3 ∨ i = 4 := by omega
  rcases h with rfl | rfl | rfl | rfl | rfl
  · exact newton (E := 64) hx ⟨1, by decide⟩ ⟨288230376151711744, by decide⟩
  · exact newton (E := 4096) hx ⟨1, by decide⟩ ⟨4503599627370496, by decide⟩
  · exact newton (E := 16777216) hx ⟨1, by decide⟩ ⟨1099511627776, by decide⟩
  · exact newton (E := 281474976710656) hx ⟨1, by decide⟩ ⟨65536, by decide⟩
  · exact newton (E := 18446744073709551616) hx ⟨4294967296, by decide⟩ ⟨1, by decide⟩
set_option maxHeartbeats 4000000 in
theorem New_good {m : Int} {w : World} (hm : GoodM m) :
    Calls Try.prog 47 #[.int .u64 m] w fun e w' => ∃ v, e = .returned (.tuple #[v, .int .i64 0]) ∧ IsCtx w' v m ∧ Below w.heap.size w w' := by
  have b1 : (Go.bits .and .u64 m 1 == 0) = false := by rw [and1 m (good_U hm), hm.1]; rfl
  have b2 : decide (m < 3) = false := decide_eq_false (by unfold GoodM at hm; omega)
  have b3 : decide (9223372036854775808 ≤ m) = false := decide_eq_false (by unfold GoodM at hm; omega)
  have hz : (m == 0) = false := beq_eq_false_iff_ne.mpr (good_ne hm)
  have hz1 : ¬ m = 0 := good_ne hm
  obtain ⟨o, ho⟩ : ∃ o, o = mOne m := ⟨_, rfl⟩
  have hone : Int.tmod (IntKind.u64.wrap (-m)) m = o := by
    have : IntKind.u64.wrap (-m) = 18446744073709551616 - m := by rw [wu64]; unfold GoodM at hm; omega
    rw [this, tmod_pos (by unfold GoodM at hm; omega), ho, Int.sub_emod_right]; rfl
  have uo : U o := by rw [ho]; exact U_mod hm _
  have uom : o < m := by rw [ho]; exact lt_mod hm _
  have p0 : 0 ≤ o * o := Int.mul_nonneg uo.1 uo.1
  have p1 : o * o ≤ (m - 1) * (m - 1) := Int.mul_le_mul (by omega) (by omega) uo.1 (by unfold GoodM at hm; omega)
  have p2 : (m - 1) * (m - 1) < m * 18446744073709551616 := by
    have : (m - 1) * (m - 1) ≤ (m - 1) * 18446744073709551616 := Int.mul_le_mul_of_nonneg_left (by unfold GoodM at hm; omega) (by unfold GoodM at hm; omega)
    unfold GoodM at hm; omega
  obtain ⟨h, hh⟩ : ∃ h, h = o * o / 18446744073709551616 := ⟨_, rfl⟩
  obtain ⟨l, hl⟩ : ∃ l, l = o * o % 18446744073709551616 := ⟨_, rfl⟩
  have M1 : Aside0 (bits_Mul64.f o o = some (h, l)) := ⟨by unfold bits_Mul64.f; rw [if_pos ⟨uo.1, uo.2, uo.1, uo.2⟩, hh, hl]⟩
  obtain ⟨s, hs⟩ : ∃ s, s = mSq m := ⟨_, rfl⟩
  obtain ⟨k, hk⟩ := Ev.rounds (bits_Rem64_ev h l m (by rw [hh]; unfold GoodM at hm; unfold U; omega) (by rw [hl]; unfold U; omega) (good_U hm) (good_ne hm))
  have K1 : Aside0 (bits_Rem64.f k h l m = some s) := ⟨by rw [hk, hs, hh, hl]; unfold mSq; rw [← ho]; congr 2; omega⟩
  have HM := Aside0.mk hm
  have HO := Aside0.mk ho
  have HS := Aside0.mk hs
  have hI : U m ∧ newtonD 0 ∣ m * m - 1 := ⟨good_U hm, newton0 hm.1⟩
  have HI := Aside0.mk hI
  clear hI ho hs uo uom p0 p1 p2 hh hl hk hm
  go_enter Try.func47, Try.ntmps47
  go_wp2
  go_loop [4, 20] (fun a c => ∃ (i : Nat) (X : Int), i ≤ 5 ∧ a = .int .u64 X ∧ c = .int .i64 i ∧ Aside0 (U X ∧ newtonD i ∣ m * X - 1)) (fun _ c => 5 - (intOf c).toNat)
  case atStart => exact ⟨0, m, by omega, rfl, rfl, HI⟩
  case round =>
    clear HI
    obtain ⟨i, X, hi5, rfl, rfl, HI⟩ := hrel
    by_cases hi : i < 5
    · have p0 : decide (i < 5) = true := decide_eq_true hi
      have HI' : Aside0 (U (IntKind.u64.wrap (X * IntKind.u64.wrap (2 - IntKind.u64.wrap (m * X)))) ∧ newtonD (i + 1) ∣ m * IntKind.u64.wrap (X * IntKind.u64.wrap (2 - IntKind.u64.wrap (m * X))) - 1) :=
        ⟨U_wrap _, newton_step i hi HI.out.2⟩
      clear HI
      go_wp2
      go_round
      case rel => exact ⟨i + 1, _, by omega, rfl, by go_num, HI'⟩
      case measure => simp [intOf]; omega
    · obtain rfl : i = 5 := by omega
      have p0 : decide ((5 : Nat) < 5) = false := by decide
      have hU := HI.out.1
      have hd : (18446744073709551616 : Int) ∣ m * IntKind.u64.wrap (-X) + 1 := by
        rw [wu64]
        have a1 : (18446744073709551616 : Int) ∣ -X % 18446744073709551616 - -X := dvd_emod_sub _ _
        have a2 : (18446744073709551616 : Int) ∣ m * X - 1 := HI.out.2
        generalize -X % 18446744073709551616 = B at *
        have e : m * B + 1 = m * (B - -X) - (m * X - 1) := by
          rw [Int.mul_sub, Int.mul_neg]; omega
        rw [e]
        exact Int.dvd_sub (Int.dvd_mul_of_dvd_right a1) a2
      have HD := Aside0.mk hd
      clear hd hU HI hi hi5
      go_wp2_with (first
        | (go_at_call 41; (with_reducible refine (mul64_calls M1).mono ?_); rintro e w' ⟨rfl, ⟨nd, rfl⟩⟩; (try first | exact qA | exact qB))
        | (go_at_call 42; (with_reducible refine (bits_Rem64.calls k h l m s _ K1.out).mono ?_); rintro e w' ⟨rfl, ⟨nd, rfl⟩⟩; (try first | exact qA | exact qB))
        )
      go_ret2
      refine ⟨.pointer (some ⟨w.heap.size, 0, none⟩), by first | rfl | (simp; done), ⟨w.heap.size, IntKind.u64.wrap (-X), rfl, ?_, HM.out, U_wrap _, HD.out⟩, by repeat (first | exact Below.refl _ _ | apply below_alloc | apply pw_below_drewN)⟩
      unfold CtxBlk
      rw [← HO.out, ← HS.out]
      exact blk_new _ _
end Go.Proofs.Ytcphlhphdpjnfaa.Mont
end
section
namespace Go.Proofs.Ytcphlhphdpjnfaa.Given04
open Go Go.RowKit Go.Proofs.YtcphlhphdpjnfaaW.PrintWords Go.Proofs.YtcphlhphdpjnfaaW.PrintLast Go.Proofs.YtcphlhphdpjnfaaW.PrintMore Go.Proofs.Ytcphlhphdpjnfaa.Given Go.Proofs.Ytcphlhphdpjnfaa.M Go.Proofs.Ytcphlhphdpjnfaa.Mont Go.Proofs.Ytcphlhphdpjnfaa.XS Go.Proofs.Ytcphlhphdpjnfaa.XT
theorem clo_calls {p g q : Int} {sv : Value} {b : Nat} {w : World} {r : Bool} (hb : w.heap[b]? = some (.cells #[.int .u64 q] 26 (0, 0))) (hr : Aside0 ((p == q) = r)) :
    Calls Try.prog 64 #[.agg #[.int .u64 p, .int .u64 g, sv], .pointer (some ⟨b, 0, none⟩)] w fun e w' => e = .returned (.bool r) ∧ Below w.heap.size w w' := by
  have hc : w.cell? ⟨b, 0, none⟩ = some (.int .u64 q) := (blk_cell hb 0).trans rfl
  have hf := blk_frozen hb 0
  have hu := Try.underlying45
  have hlt := blk_lt hb
  clear hb
  go_enter Try.func64, Try.ntmps64
  go_wp2
  go_ret
  exact ⟨by rw [← hr.out] <;> first | rfl | (simp; done), below_alloc (Below.refl _ _) _⟩
def hasP (l : List S45) (q : Int) : Bool := l.any fun e => e.f0 == q
theorem any_take_succ (l : List S45) (q : Int) (i : Nat) (h : i < l.length) : hasP (l.take (i + 1)) q = (hasP (l.take i) q || ((rd_T45 l (i : Int)).f0 == q)) := by
  unfold hasP rd_T45
  rw [List.take_succ_eq_append_getElem h, List.any_append]
  simp [List.getD, List.getElem?_eq_getElem h]
theorem hasP_of_take {l : List S45} {q : Int} {i : Nat} (h : hasP (l.take i) q = true) : hasP l q = true := by
  unfold hasP at *
  rw [List.any_eq_true] at *
  obtain ⟨x, hx, he⟩ := h
  exact ⟨x, List.mem_of_mem_take hx, he⟩
set_option maxHeartbeats 2000000 in
theorem index_calls {A0 : Option Addr} {c0 b : Nat} {l0 : List S45} {q : Int} {w : World} (hr0 : Kd.C k45 w A0 l0.length l0) (hb : w.heap[b]? = some (.cells #[.int .u64 q] 26 (0, 0))) :
    Calls Try.prog 73 #[.slice A0 l0.length c0, .func (Fn.func 64) #[] #[.pointer (some ⟨b, 0, none⟩)]] w fun e w' => ∃ i : Int, e = .returned (.int .i64 i) ∧ decide (0 ≤ i) = hasP l0 q ∧ Below w.heap.size w w' := by
  have hlen : l0.length ≤ 9223372036854775807 := hr0.2.1
  have HR0 := Aside0.mk hr0
  have HC := Aside0.mk hb
  have h0 : Aside0 (hasP (l0.take 0) q = false) := ⟨rfl⟩
  clear hr0 hb
  go_enter Try.func73, Try.ntmps73
  go_wp2
  go_loopw [8] (fun v8 w' => ∃ i : Nat, v8 = .int .i64 i ∧ i ≤ l0.length ∧ Aside0 (hasP (l0.take i) q = false) ∧ Aside0 (Below w.heap.size w w')) (fun v8 _ => l0.length - (intOf v8).toNat)
  case atStart => exact ⟨0, rfl, by omega, h0, ⟨Below.refl _ _⟩⟩
  case round =>
    clear h0
    obtain ⟨i, rfl, hi, H1, HB⟩ := hrel
    by_cases hlt : i < l0.length
    · have c3b0 : decide ((i : Int) < (l0.length : Int)) = true := decide_eq_true (by omega)
      have c3b1 : decide (i < l0.length) = true := decide_eq_true hlt
      have p1 : 0 ≤ (i : Int) := by omega
      have q1 : (i : Int) < (l0.length : Int) := by omega
      obtain ⟨ad, A2, c2, e1, hx0, hx1, hx2, hl2, hi2⟩ := at_T45 HR0.out i p1 q1
      cases e1
      replace hx0 := (HB.out.cell (World.block_lt_of_cell? w _ hx0)).trans hx0
      replace hx1 := (HB.out.cell (World.block_lt_of_cell? w _ hx1)).trans hx1
      replace hx2 := (HB.out.cell (World.block_lt_of_cell? w _ hx2)).trans hx2
      simp only [Int.toNat_natCast] at hx0 hx1 hx2
      have HBLK := Aside0.mk (blk_below HC.out HB.out)
      have hstep := any_take_succ l0 q i hlt
      clear hi2 hl2 hlt
      cases hm : ((rd_T45 l0 (i : Int)).f0 == q) with
      | true =>
        have HM := Aside0.mk hm
        have HF : Aside0 (hasP l0 q = true) := ⟨hasP_of_take (i := i + 1) (by rw [hstep, hm]; simp)⟩
        clear hm hstep
        go_wp2_with (go_at_call 64; (with_reducible refine (clo_calls HBLK.out HM).mono ?_); rintro e w2 ⟨rfl, hb2⟩; have HB2 := Aside0.mk hb2; clear hb2)
        go_ret
        exact ⟨i, by first | rfl | (simp; done), by rw [HF.out]; exact decide_eq_true (by omega), below_step HB.out HB2.out⟩
      | false =>
        have HM := Aside0.mk hm
        have HF : Aside0 (hasP (l0.take (i + 1)) q = false) := ⟨by rw [hstep, hm, H1.out]; rfl⟩
        clear hm hstep
        go_wp2_with (go_at_call 64; (with_reducible refine (clo_calls HBLK.out HM).mono ?_); rintro e w2 ⟨rfl, hb2⟩; have HB2 := Aside0.mk hb2; clear hb2)
        go_roundw
        case rel => exact ⟨i + 1, by go_num, by omega, HF, ⟨below_step HB.out HB2.out⟩⟩
        case measure => simp [intOf]; omega
    · have c3b0 : decide ((i : Int) < (l0.length : Int)) = false := decide_eq_false (by omega)
      have c3b1 : decide (i < l0.length) = false := decide_eq_false hlt
      have HF : Aside0 (hasP l0 q = false) := ⟨by have := H1.out; rwa [List.take_of_length_le (by omega)] at this⟩
      clear hlt
      go_wp2
      go_ret
      exact ⟨-1, by first | rfl | (simp; done), by rw [HF.out]; rfl, HB.out⟩
theorem contains_calls {A0 : Option Addr} {c0 b : Nat} {l0 : List S45} {q : Int} {w : World} (hr0 : Kd.C k45 w A0 l0.length l0) (hb : w.heap[b]? = some (.cells #[.int .u64 q] 26 (0, 0))) :
    Calls Try.prog 63 #[.slice A0 l0.length c0, .func (Fn.func 64) #[] #[.pointer (some ⟨b, 0, none⟩)]] w fun e w' => e = .returned (.bool (hasP l0 q)) ∧ Below w.heap.size w w' := by
  have HR0 := Aside0.mk hr0
  have HC := Aside0.mk hb
  clear hr0 hb
  go_enter Try.func63, Try.ntmps63
  go_wp2_with (go_at_call 73; (with_reducible refine (index_calls HR0.out HC.out).mono ?_); rintro e w2 ⟨i, rfl, hd, hb2⟩; have HB2 := Aside0.mk hb2; have HD := Aside0.mk hd; clear hb2 hd)
  go_ret
  exact ⟨by rw [← HD.out] <;> first | rfl | (simp; done), HB2.out⟩
def proof_claimed.f (l0 : List S45) (a1 : Int) : Option Bool := some (hasP l0 a1)
theorem proof_claimed.calls (A0 : Option Addr) (c0 : Nat) (l0 : List S45) (a1 : Int) (r : Bool) (w : World) (hr0 : Kd.C k45 w A0 l0.length l0) (_hc0 : l0.length ≤ c0) (h : proof_claimed.f l0 a1 = some r) :
    Calls Try.prog 46 #[.slice A0 l0.length c0, .int .u64 a1] w fun e w' => e = .returned (.bool r) ∧ Below w.heap.size w w' := by
  have HR : Aside0 (hasP l0 a1 = r) := ⟨Option.some.inj h⟩
  have HR0 : Aside0 (Kd.C k45 (w.alloc (.cells #[.int .u64 a1] 26)) A0 l0.length l0) := ⟨Kd.C_alloc hr0 _⟩
  have HC : Aside0 ((w.alloc (.cells #[.int .u64 a1] 26)).heap[w.heap.size]? = some (.cells #[.int .u64 a1] 26 (0, 0))) := ⟨blk_new _ _⟩
  clear h hr0
  go_enter Try.func46, Try.ntmps46
  go_wp2_with (go_at_call 63; (with_reducible refine (contains_calls HR0.out HC.out).mono ?_); rintro e w2 ⟨rfl, hb2⟩; have HB2 := Aside0.mk hb2; clear hb2)
  go_ret
  exact ⟨by rw [← HR.out] <;> first | rfl | (simp; done), below_step (below_alloc (Below.refl _ _) _) HB2.out⟩
end Go.Proofs.Ytcphlhphdpjnfaa.Given04
end
section
namespace Go.Proofs.Ytcphlhphdpjnfaa.Given04
open Go Go.RowKit Go.Proofs.YtcphlhphdpjnfaaW.PrintWords Go.Proofs.YtcphlhphdpjnfaaW.PrintLast Go.Proofs.YtcphlhphdpjnfaaW.PrintMore Go.Proofs.Ytcphlhphdpjnfaa.Given Go.Proofs.Ytcphlhphdpjnfaa.M Go.Proofs.Ytcphlhphdpjnfaa.Mont Go.Proofs.Ytcphlhphdpjnfaa.XS Go.Proofs.Ytcphlhphdpjnfaa.XT
theorem pow_one_iff {m : Int} (g : GoodM m) (x e : Int) : (mPow m (mIn m x) e == mOne m) = (x ^ e.toNat % m == 1) := by
  rw [pow_in g]
  have h1 : mOne m = mIn m 1 := by unfold mOne mIn; rw [Int.one_mul]
  have h2 : (1 : Int) % m = 1 := Int.emod_eq_of_lt (by omega) (by unfold GoodM at g; omega)
  rw [h1]
  by_cases h : x ^ e.toNat % m = 1
  · have : mIn m (x ^ e.toNat) = mIn m 1 := by rw [← in_rest (x ^ e.toNat), h]
    rw [this, h]; simp
  · have : mIn m (x ^ e.toNat) ≠ mIn m 1 := fun q => h (by have := strike g q; rw [this, h2])
    rw [beq_eq_false_iff_ne.mpr this, beq_eq_false_iff_ne.mpr h]
def bad1 (P G : Int) (x : S33) : Bool := G ^ ((P - 1) / x.f0).toNat % P == 1
def okF (P G : Int) (l : List S33) : Prop := GoodM P ∧ U G ∧ ∀ x ∈ l, 1 ≤ x.f0 ∧ U x.f0
instance (P G : Int) (l : List S33) : Decidable (okF P G l) := by unfold okF GoodM U; infer_instance
def proof_full.f (P G : Int) (l : List S33) : Option Bool :=
  if okF P G l then some ((G ^ (P - 1).toNat % P == 1) && !(l.any (bad1 P G))) else none
theorem any_take_succ1 (l : List S33) (f : S33 → Bool) (i : Nat) (h : i < l.length) : (l.take (i + 1)).any f = ((l.take i).any f || f (rd_T33 l (i : Int))) := by
  unfold rd_T33
  rw [List.take_succ_eq_append_getElem h, List.any_append]
  simp [List.getD, List.getElem?_eq_getElem h]
theorem any_of_take {l : List S33} {f : S33 → Bool} {i : Nat} (h : (l.take i).any f = true) : l.any f = true := by
  rw [List.any_eq_true] at *
  obtain ⟨x, hx, he⟩ := h
  exact ⟨x, List.mem_of_mem_take hx, he⟩
theorem rd_mem {l : List S33} {i : Nat} (h : i < l.length) : rd_T33 l (i : Int) ∈ l := by
  unfold rd_T33
  simp [List.getD, List.getElem?_eq_getElem h]
set_option maxRecDepth 100000 in
set_option maxHeartbeats 8000000 in
theorem proof_full.calls (P G : Int) (A0 : Option Addr) (c0 : Nat) (l : List S33) (r : Bool) (w : World) (hr0 : Kd.C k33 w A0 l.length l) (_hc0 : l.length ≤ c0) (h : proof_full.f P G l = some r) :
    Calls Try.prog 40 #[.agg #[.int .u64 P, .int .u64 G, .slice A0 l.length c0]] w fun e w' => e = .returned (.bool r) ∧ Below w.heap.size w w' := by
  unfold proof_full.f at h
  split at h
  case isFalse => cases h
  rename_i hok
  have HR := Aside0.mk (Option.some.inj h)
  clear h
  obtain ⟨w1, hw1⟩ : ∃ w1, w1 = w.alloc (.cells #[.int .u64 P, .int .u64 G, .slice A0 l.length c0] 45) := ⟨_, rfl⟩
  have hG : Aside0 (GoodM P) := ⟨hok.1⟩
  obtain ⟨g, hg⟩ : ∃ g, g = mIn P G := ⟨_, rfl⟩
  obtain ⟨o, ho⟩ : ∃ o, o = mOne P := ⟨_, rfl⟩
  obtain ⟨m1, hm1⟩ : ∃ m1, m1 = P - 1 := ⟨_, rfl⟩
  obtain ⟨pw, hpw⟩ : ∃ pw, pw = mPow P g m1 := ⟨_, rfl⟩
  have hwr : IntKind.u64.wrap (P - 1) = m1 := by rw [wu64, hm1]; have := hok.1; unfold GoodM at this; omega
  have SG := Aside0.mk hg
  have SO := Aside0.mk ho
  have SP := Aside0.mk hpw
  have UG := Aside0.mk hok.2.1
  have Ug : Aside0 (U g) := ⟨by rw [hg]; exact U_mod hok.1 _⟩
  have Um : Aside0 (U m1) := ⟨by rw [hm1]; have := hok.1; unfold GoodM at this; unfold U; omega⟩
  have HM1 := Aside0.mk hm1
  have HOK := Aside0.mk hok
  have HLEN : Aside0 (l.length ≤ 9223372036854775807) := ⟨hr0.2.1⟩
  have HB1 : Aside0 (w1.heap[w.heap.size]? = some (.cells #[.int .u64 P, .int .u64 G, .slice A0 l.length c0] 45 (0, 0))) := ⟨by rw [hw1]; exact blk_new _ _⟩
  have HC1 : Aside0 (Kd.C k33 w1 A0 l.length l) := ⟨by rw [hw1]; exact Kd.C_alloc hr0 _⟩
  have HW1 : Aside0 (Below w.heap.size w w1) := ⟨by rw [hw1]; exact below_alloc (Below.refl _ _) _⟩
  have hfirst : (pw == o) = (G ^ (P - 1).toNat % P == 1) := by rw [hpw, ho, hg, hm1, pow_one_iff hok.1]
  have hbx : w1.cell? ⟨w.heap.size, 0, none⟩ = some (.int .u64 P) := (blk_cell HB1.out 0).trans rfl
  cases hb : (pw == o) with
  | false =>
    have HR' : Aside0 (r = false) := ⟨by rw [← HR.out, ← hfirst, hb]; rfl⟩
    clear hr0 _hc0 hok HR hg ho hm1 hpw hfirst HOK HLEN
    go_enter Try.func40, Try.ntmps40
    go_wp2_with (first
        | (go_at_call 47; (with_reducible refine (New_good hG.out).mono ?_); rintro e w2 ⟨v, rfl, hv, hb2⟩; (have HB2 : Aside0 (Below w1.heap.size w1 w2) := ⟨by rw [hw1]; exact hb2⟩); have HE := Aside0.mk (blk_below HB1.out HB2.out); (have e0 : w2.cell? ⟨w.heap.size, 0, none⟩ = some (.int .u64 P) := (blk_cell HE.out 0).trans rfl); (have e1 : w2.cell? ⟨w.heap.size, 1, none⟩ = some (.int .u64 G) := (blk_cell HE.out 1).trans rfl); (have e2 : w2.cell? ⟨w.heap.size, 2, none⟩ = some (.slice A0 l.length c0) := (blk_cell HE.out 2).trans rfl); have HB := Aside0.mk hv; (have HN : Aside0 (∀ n, IsCtx (w2.drewN n) v P) := ⟨fun _ => HB.out⟩); clear hb2 hv)
        | (go_at_call 48; (with_reducible refine (In_some HB.out UG.out SG).mono ?_); rintro e w' ⟨rfl, ⟨nd, rfl⟩⟩; (try first | exact qA | exact qB))
        | (go_at_call 48; (with_reducible refine (In_some (HN.out _) UG.out SG).mono ?_); rintro e w' ⟨rfl, ⟨nd, rfl⟩⟩; (try first | exact qA | exact qB))
        | (go_at_call 49; (with_reducible refine (Pow_some HB.out Ug.out Um.out SP).mono ?_); rintro e w' ⟨rfl, ⟨nd, rfl⟩⟩; (try first | exact qA | exact qB))
        | (go_at_call 49; (with_reducible refine (Pow_some (HN.out _) Ug.out Um.out SP).mono ?_); rintro e w' ⟨rfl, ⟨nd, rfl⟩⟩; (try first | exact qA | exact qB))
        | (go_at_call 50; (with_reducible refine (One_some HB.out SO).mono ?_); rintro e w' ⟨rfl, ⟨nd, rfl⟩⟩; (try first | exact qA | exact qB))
        | (go_at_call 50; (with_reducible refine (One_some (HN.out _) SO).mono ?_); rintro e w' ⟨rfl, ⟨nd, rfl⟩⟩; (try first | exact qA | exact qB))
      )
    go_ret
    exact ⟨by rw [HR'.out] <;> first | rfl | (simp; done), by repeat (first | exact below_step HW1.out HB2.out | apply pw_below_drewN)⟩
  | true =>
    have HF : Aside0 ((!(l.any (bad1 P G))) = r) := ⟨by rw [← HR.out, ← hfirst, hb]; rfl⟩
    have hne : (pw != o) = false := by rw [bne, hb]; rfl
    have h00 : Aside0 ((l.take 0).any (bad1 P G) = false) := ⟨rfl⟩
    clear hr0 _hc0 hok HR hg ho hm1 hpw hfirst
    go_enter Try.func40, Try.ntmps40
    go_wp2_with (first
        | (go_at_call 47; (with_reducible refine (New_good hG.out).mono ?_); rintro e w2 ⟨v, rfl, hv, hb2⟩; (have HB2 : Aside0 (Below w1.heap.size w1 w2) := ⟨by rw [hw1]; exact hb2⟩); have HE := Aside0.mk (blk_below HB1.out HB2.out); (have e0 : w2.cell? ⟨w.heap.size, 0, none⟩ = some (.int .u64 P) := (blk_cell HE.out 0).trans rfl); (have e1 : w2.cell? ⟨w.heap.size, 1, none⟩ = some (.int .u64 G) := (blk_cell HE.out 1).trans rfl); (have e2 : w2.cell? ⟨w.heap.size, 2, none⟩ = some (.slice A0 l.length c0) := (blk_cell HE.out 2).trans rfl); have HB := Aside0.mk hv; (have HN : Aside0 (∀ n, IsCtx (w2.drewN n) v P) := ⟨fun _ => HB.out⟩); clear hb2 hv)
        | (go_at_call 48; (with_reducible refine (In_some HB.out UG.out SG).mono ?_); rintro e w' ⟨rfl, ⟨nd, rfl⟩⟩; (try first | exact qA | exact qB))
        | (go_at_call 48; (with_reducible refine (In_some (HN.out _) UG.out SG).mono ?_); rintro e w' ⟨rfl, ⟨nd, rfl⟩⟩; (try first | exact qA | exact qB))
        | (go_at_call 49; (with_reducible refine (Pow_some HB.out Ug.out Um.out SP).mono ?_); rintro e w' ⟨rfl, ⟨nd, rfl⟩⟩; (try first | exact qA | exact qB))
        | (go_at_call 49; (with_reducible refine (Pow_some (HN.out _) Ug.out Um.out SP).mono ?_); rintro e w' ⟨rfl, ⟨nd, rfl⟩⟩; (try first | exact qA | exact qB))
        | (go_at_call 50; (with_reducible refine (One_some HB.out SO).mono ?_); rintro e w' ⟨rfl, ⟨nd, rfl⟩⟩; (try first | exact qA | exact qB))
        | (go_at_call 50; (with_reducible refine (One_some (HN.out _) SO).mono ?_); rintro e w' ⟨rfl, ⟨nd, rfl⟩⟩; (try first | exact qA | exact qB))
      )
    go_loopw [30] (fun v30 wr => ∃ i : Nat, v30 = .int .i64 i ∧ i ≤ l.length ∧ Aside0 ((l.take i).any (bad1 P G) = false) ∧ Aside0 (Below w2.heap.size w2 wr)) (fun v30 _ => l.length - (intOf v30).toNat)
    case atStart => exact ⟨0, rfl, by omega, h00, ⟨by repeat (first | exact Below.refl _ _ | apply pw_below_drewN)⟩⟩
    case round =>
      clear h00
      have HC2 : Aside0 (Kd.C k33 w2 A0 l.length l) := ⟨Kd.C_below HC1.out HB2.out⟩
      obtain ⟨i, rfl, hi, H1, HBW⟩ := hrel
      have hlen := HLEN.out
      by_cases hlt : i < l.length
      · have c3b0 : decide ((i : Int) < (l.length : Int)) = true := decide_eq_true (by omega)
        have c3b1 : decide (i < l.length) = true := decide_eq_true hlt
        have p1 : 0 ≤ (i : Int) := by omega
        have q1 : (i : Int) < (l.length : Int) := by omega
        obtain ⟨ad, rfl, hx0, hx1⟩ := at_T33 HC2.out i (by omega) (by omega)
        replace hx0 := (HBW.out.cell (World.block_lt_of_cell? w2 _ hx0)).trans hx0
        replace hx1 := (HBW.out.cell (World.block_lt_of_cell? w2 _ hx1)).trans hx1
        simp only [Int.toNat_natCast] at hx0 hx1
        replace e0 := (HBW.out.cell (World.block_lt_of_cell? w2 _ e0)).trans e0
        replace e1 := (HBW.out.cell (World.block_lt_of_cell? w2 _ e1)).trans e1
        replace e2 := (HBW.out.cell (World.block_lt_of_cell? w2 _ e2)).trans e2
        have hstep := any_take_succ1 l (bad1 P G) i hlt
        have hxm := HOK.out.2.2 _ (rd_mem hlt)
        have HEB := Aside0.mk (blk_below HE.out HBW.out)
        obtain ⟨Q, hQ⟩ : ∃ Q, Q = (rd_T33 l (i : Int)).f0 := ⟨_, rfl⟩
        obtain ⟨E, hE⟩ : ∃ E, E = (rd_T33 l (i : Int)).f1 := ⟨_, rfl⟩
        rw [← hQ] at hx0 hxm
        rw [← hE] at hx1
        have hbd : bad1 P G (rd_T33 l (i : Int)) = (G ^ ((P - 1) / Q).toNat % P == 1) := by rw [hQ]; rfl
        rw [hbd, H1.out, Bool.false_or] at hstep
        obtain ⟨d, hd⟩ : ∃ d, d = (P - 1) / Q := ⟨_, rfl⟩
        obtain ⟨pd, hpd⟩ : ∃ pd, pd = mPow P g d := ⟨_, rfl⟩
        have hm1 := HM1.out
        have hz : (Q == 0) = false := beq_eq_false_iff_ne.mpr (by omega)
        have hz1 : ¬ Q = 0 := by omega
        have hdv : Int.tdiv m1 Q = d := by rw [tdiv_pos Um.out.1, hd, hm1]
        have SD := Aside0.mk hpd
        have Ud : Aside0 (U d) := ⟨by
          have u := Um.out
          have : (P - 1) / Q ≤ P - 1 := Int.ediv_le_self _ (by rw [← hm1]; exact u.1)
          have h0 : 0 ≤ (P - 1) / Q := Int.ediv_nonneg (by rw [← hm1]; exact u.1) (by omega)
          rw [hd]; unfold U at *; omega⟩
        have hdw : IntKind.u64.wrap d = d := by have u := Ud.out; rw [wu64]; exact Int.emod_eq_of_lt u.1 u.2
        have hcmp : (pd == o) = (l.take (i + 1)).any (bad1 P G) := by rw [hpd, SO.out, SG.out, pow_one_iff hG.out, hstep, hd]
        have HS := Aside0.mk hstep
        have HC := Aside0.mk hcmp
        have HLT := Aside0.mk hlt
        clear hstep hcmp hxm hQ hE hbd hd hpd hm1 hi hlt
        cases hbq : (pd == o) with
        | true =>
          have HR' : Aside0 (r = false) := ⟨by rw [← HF.out, any_of_take (i := i + 1) (by rw [← HC.out, hbq])]; rfl⟩
          go_wp2_with (first
            | ((with_reducible refine gate_dst (N := 7) rfl ?_); refine box_event ?hg (N := 7) ?hd (cs := #[.int .u64 0, .int .i64 0]) (t := 33) ?hr ?_; (case hd => rfl); (case hg => rfl); (case hr => first | (go_simp; done) | (go_simp; rfl)); intro gb hg w11 hbox hbx2; (have GE : Aside0 (w2.heap.size ≤ gb) := ⟨by rw [hg]; exact HBW.out.size⟩); (have ne1 : gb ≠ w.heap.size := (by have := blk_lt HE.out; have := GE.out; omega)); have ne2 := Ne.symm ne1; (have HBX : Aside0 (Below w2.heap.size w2 w11) := ⟨below_step HBW.out hbx2⟩); replace e0 := (hbx2.cell (World.block_lt_of_cell? wr _ e0)).trans e0; (have z0 : w11.cell? ⟨gb, 0, none⟩ = some (.int .u64 0) := (blk_cell hbox 0).trans rfl); (have z1 : w11.cell? ⟨gb, 1, none⟩ = some (.int .i64 0) := (blk_cell hbox 1).trans rfl); have z2 := blk_frozen hbox 0; have z3 := blk_frozen hbox 1; clear hbox hbx2 hg e1 e2 hx0 hx1)
            | (go_at_call 49; (with_reducible refine (Pow_some (HB.out.below (by repeat (first | exact HBX.out | apply pw_below_drewN | refine below_set ?_ GE.out))) Ug.out Ud.out SD).mono ?_); rintro e w' ⟨rfl, ⟨nd, rfl⟩⟩; (try first | exact qA | exact qB))
            | (go_at_call 50; (with_reducible refine (One_some (HB.out.below (by repeat (first | exact HBX.out | apply pw_below_drewN | refine below_set ?_ GE.out))) SO).mono ?_); rintro e w' ⟨rfl, ⟨nd, rfl⟩⟩; (try first | exact qA | exact qB))
          )
          go_ret
          exact ⟨by rw [HR'.out] <;> first | rfl | (simp; done), below_step (below_step HW1.out HB2.out) (by repeat (first | exact HBX.out | apply pw_below_drewN | refine below_set ?_ GE.out))⟩
        | false =>
          have HA : Aside0 ((l.take (i + 1)).any (bad1 P G) = false) := ⟨by rw [← HC.out, hbq]⟩
          go_wp2_with (first
            | ((with_reducible refine gate_dst (N := 7) rfl ?_); refine box_event ?hg (N := 7) ?hd (cs := #[.int .u64 0, .int .i64 0]) (t := 33) ?hr ?_; (case hd => rfl); (case hg => rfl); (case hr => first | (go_simp; done) | (go_simp; rfl)); intro gb hg w11 hbox hbx2; (have GE : Aside0 (w2.heap.size ≤ gb) := ⟨by rw [hg]; exact HBW.out.size⟩); (have ne1 : gb ≠ w.heap.size := (by have := blk_lt HE.out; have := GE.out; omega)); have ne2 := Ne.symm ne1; (have HBX : Aside0 (Below w2.heap.size w2 w11) := ⟨below_step HBW.out hbx2⟩); replace e0 := (hbx2.cell (World.block_lt_of_cell? wr _ e0)).trans e0; (have z0 : w11.cell? ⟨gb, 0, none⟩ = some (.int .u64 0) := (blk_cell hbox 0).trans rfl); (have z1 : w11.cell? ⟨gb, 1, none⟩ = some (.int .i64 0) := (blk_cell hbox 1).trans rfl); have z2 := blk_frozen hbox 0; have z3 := blk_frozen hbox 1; clear hbox hbx2 hg e1 e2 hx0 hx1)
            | (go_at_call 49; (with_reducible refine (Pow_some (HB.out.below (by repeat (first | exact HBX.out | apply pw_below_drewN | refine below_set ?_ GE.out))) Ug.out Ud.out SD).mono ?_); rintro e w' ⟨rfl, ⟨nd, rfl⟩⟩; (try first | exact qA | exact qB))
            | (go_at_call 50; (with_reducible refine (One_some (HB.out.below (by repeat (first | exact HBX.out | apply pw_below_drewN | refine below_set ?_ GE.out))) SO).mono ?_); rintro e w' ⟨rfl, ⟨nd, rfl⟩⟩; (try first | exact qA | exact qB))
          )
          go_roundw
          case rel => exact ⟨i + 1, by have := HLT.out; have := HLEN.out; go_num, by have := HLT.out; omega, HA, ⟨(by repeat (first | exact HBX.out | apply pw_below_drewN | refine below_set ?_ GE.out))⟩⟩
          case measure => have := HLT.out; have := HLEN.out; simp [intOf]; omega
      · have c3b0 : decide ((i : Int) < (l.length : Int)) = false := decide_eq_false (by omega)
        have c3b1 : decide (i < l.length) = false := decide_eq_false hlt
        have HR' : Aside0 (r = true) := ⟨by rw [← HF.out]; have := H1.out; rw [List.take_of_length_le (by omega)] at this; rw [this]; rfl⟩
        clear hlt hlen
        go_wp2
        go_ret
        exact ⟨by rw [HR'.out] <;> first | rfl | (simp; done), by repeat (first | exact below_step (below_step HW1.out HB2.out) HBW.out | apply pw_below_drewN)⟩
end Go.Proofs.Ytcphlhphdpjnfaa.Given04
end
section
namespace Go.Proofs.Ytcphlhphdpjnfaa.XS
open Go.RowKit Go.Proofs.Ytcphlhphdpjnfaa.Given Go.Proofs.Ytcphlhphdpjnfaa.Given05 Go.Proofs.YtcphlhphdpjnfaaW.PrintWords Go.Proofs.YtcphlhphdpjnfaaW.PrintLast Go.Proofs.YtcphlhphdpjnfaaW.PrintMore
attribute [local go_sem] max2_int min2_int max_two min_two max_three min_three max_four min_four   -- for this text's walks alone
set_option linter.unusedVariables false
set_option linter.unusedSimpArgs false
def epicyclelaw05_alive.f (k : Nat)  : Option (Bool) := (sieve_Primes.f k 10).bind fun t126 => (if (t126.length : Int) = 4 then (if 0 < (t126.length : Int) then (if (rd t126 0) = 2 then (if 3 < (t126.length : Int) then (if (rd t126 3) = 7 then ((sieve_Generator.f k 7).bind fun t131 => (if t131 = 3 then ((sieve_Prime.f k 97).bind fun t132 => (some t132)) else (some false))) else (some false)) else (none)) else (some false)) else (none)) else (some false))
set_option maxHeartbeats 8000000 in
set_option maxRecDepth 100000 in
theorem epicyclelaw05_alive.calls (k : Nat)  (r : Bool) (w : World) (h : epicyclelaw05_alive.f k  = some r) :
    Calls Try.prog 8 #[] w fun e w' => e = .returned (.bool r) ∧ Below w.heap.size w w' := by
  have HB := Aside0.mk (Below.refl w.heap.size w)
  have H : ((sieve_Primes.f k 10).bind fun t126 => (if (t126.length : Int) = 4 then (if 0 < (t126.length : Int) then (if (rd t126 0) = 2 then (if 3 < (t126.length : Int) then (if (rd t126 3) = 7 then ((sieve_Generator.f k 7).bind fun t131 => (if t131 = 3 then ((sieve_Prime.f k 97).bind fun t132 => (some t132)) else (some false))) else (some false)) else (none)) else (some false)) else (none)) else (some false))) = some r := h
  clear h
  replace H := Option.bind_eq_some_iff.mp H
  obtain ⟨t126, A10, H⟩ := H
  replace H : (if (t126.length : Int) = 4 then (if 0 < (t126.length : Int) then (if (rd t126 0) = 2 then (if 3 < (t126.length : Int) then (if (rd t126 3) = 7 then ((sieve_Generator.f k 7).bind fun t131 => (if t131 = 3 then ((sieve_Prime.f k 97).bind fun t132 => (some t132)) else (some false))) else (some false)) else (none)) else (some false)) else (none)) else (some false)) = some r := H
  have A1 := Aside0.mk A10
  clear A10
  by_cases c2 : (t126.length : Int) = 4
  · rw [if_pos c2] at H
    have c2b0 : ((t126.length : Int) == 4) = true := beq_iff_eq.mpr c2
    have c2b1 : ((t126.length : Int) != 4) = false := bne_eq_false_iff_eq.mpr c2
    clear c2
    by_cases c3 : 0 < (t126.length : Int)
    · rw [if_pos c3] at H
      have c3b0 : decide (0 < (t126.length : Int)) = true := decide_eq_true c3
      have c3b1 : decide (0 < t126.length) = true := decide_eq_true (by omega)
      clear c3
      by_cases c4 : (rd t126 0) = 2
      · rw [if_pos c4] at H
        have c4b0 : ((rd t126 0) == 2) = true := beq_iff_eq.mpr c4
        have c4b1 : ((rd t126 0) != 2) = false := bne_eq_false_iff_eq.mpr c4
        clear c4
        by_cases c5 : 3 < (t126.length : Int)
        · rw [if_pos c5] at H
          have c5b0 : decide (3 < (t126.length : Int)) = true := decide_eq_true c5
          have c5b1 : decide (3 < t126.length) = true := decide_eq_true (by omega)
          clear c5
          by_cases c6 : (rd t126 3) = 7
          · rw [if_pos c6] at H
            have c6b0 : ((rd t126 3) == 7) = true := beq_iff_eq.mpr c6
            have c6b1 : ((rd t126 3) != 7) = false := bne_eq_false_iff_eq.mpr c6
            clear c6
            replace H := Option.bind_eq_some_iff.mp H
            obtain ⟨t131, A70, H⟩ := H
            replace H : (if t131 = 3 then ((sieve_Prime.f k 97).bind fun t132 => (some t132)) else (some false)) = some r := H
            have A7 := Aside0.mk A70
            clear A70
            by_cases c8 : t131 = 3
            · rw [if_pos c8] at H
              have c8b0 : (t131 == 3) = true := beq_iff_eq.mpr c8
              have c8b1 : (t131 != 3) = false := bne_eq_false_iff_eq.mpr c8
              clear c8
              replace H := Option.bind_eq_some_iff.mp H
              obtain ⟨t132, A90, H⟩ := H
              replace H : (some t132) = some r := H
              have A9 := Aside0.mk A90
              clear A90
              obtain rfl := Option.some.inj H
              go_enter Try.func8, Try.ntmps8
              go_wp2_with (first | ((with_reducible refine gate_callee (f := 9) rfl ?_); refine goesL_ (some 2) rfl rfl Try.func9 (by kernel_rfl) rfl #[.int .i64 10] rfl (by (try simp only [List.map_toArray, List.map_cons, List.map_nil]); first | done | rfl | (simp only [List.length_drop, List.length_take]; rfl)) ?_; (with_reducible refine (sieve_Primes.calls k 10 t126 _ A1.out).mono ?_); rintro e w10 ⟨v127, rfl, ho0, hb⟩; refine ⟨_, rfl, ?_⟩; have n0_ := Aside0.mk (Kd.R_lower ho0 (below_size (by repeat (first | (with_reducible first | exact HB.out | apply below_alloc | apply pw_below_drewN | apply below_drew1) | exact HB.out)))); have n1_ := Aside0.mk (below_step (by repeat (first | (with_reducible first | exact HB.out | apply below_alloc | apply pw_below_drewN | apply below_drew1) | exact HB.out)) hb); clear HB; have HO128 := n0_; have HB := n1_; clear n0_ n1_; (try clear hb); (try clear hb2); (try clear hk); (try clear hi); (try clear ho0); obtain ⟨Ao11, co11, eo11⟩ := Kd.R_slice HO128.out; subst eo11; have p129 : 0 ≤ (0 : Int) := (by omega); have q129 : 0 < (t126.length : Int) := of_decide_eq_true (by first | (with_reducible assumption) | assumption); obtain ⟨ad129, e129, hx129_0⟩ := Kd.at_int (Kd.R_reads' HO128.out).2.2 0 p129 q129; cases e129; have qi129 : (0 < t126.length) = True := eq_true (by omega); (try rw [show ((0 : Int)).toNat = 0 from rfl] at hx129_0); (try rw [Addr.add_zero'] at hx129_0); replace p129 := eq_true p129; replace q129 := eq_true q129; have p130 : 0 ≤ (3 : Int) := (by omega); have q130 : 3 < (t126.length : Int) := of_decide_eq_true (by first | (with_reducible assumption) | assumption); obtain ⟨ad130, e130, hx130_0⟩ := Kd.at_int (Kd.R_reads' HO128.out).2.2 3 p130 q130; obtain rfl : ad129 = ad130 := (by injection e130); (try simp only [show (3 : Int).toNat = 3 from rfl, Nat.reduceMul, Nat.reduceEqDiff, Go.Addr.add, ↓reduceIte] at hx130_0); have qi130 : (3 < t126.length) = True := eq_true (by omega); (try rw [show ((3 : Int)).toNat = 3 from rfl] at hx130_0); replace p130 := eq_true p130; replace q130 := eq_true q130) | (go_at_call 14; (with_reducible refine (sieve_Generator.calls k 7 t131 _ A7.out).mono ?_); rintro e w12 ⟨rfl, hb⟩; have n0_ := Aside0.mk (Kd.R_below (by (with_reducible repeat (first | apply Kd.R_alloc | apply Kd.R_drewN | apply Kd.R_drew)); exact HO128.out) hb); have n1_ := Aside0.mk (below_step (by repeat (first | (with_reducible first | exact HB.out | apply below_alloc | apply pw_below_drewN | apply below_drew1) | exact HB.out)) hb); clear HO128; clear HB; have HO128 := n0_; have HB := n1_; clear n0_ n1_; (try clear hb); (try clear hb2); (try clear hk); (try clear hi)) | (go_at_call 13; (with_reducible refine (sieve_Prime.calls k 97 t132 _ A9.out).mono ?_); rintro e w13 ⟨rfl, hb⟩; have n0_ := Aside0.mk (Kd.R_below (by (with_reducible repeat (first | apply Kd.R_alloc | apply Kd.R_drewN | apply Kd.R_drew)); exact HO128.out) hb); have n1_ := Aside0.mk (below_step (by repeat (first | (with_reducible first | exact HB.out | apply below_alloc | apply pw_below_drewN | apply below_drew1) | exact HB.out)) hb); clear HO128; clear HB; have HO128 := n0_; have HB := n1_; clear n0_ n1_; (try clear hb); (try clear hb2); (try clear hk); (try clear hi)))
              go_ret
              exact ⟨by first | rfl | (simp [errW_none, errW_some] <;> rfl) | (simp [*, errW_none, errW_some] <;> rfl), by repeat (first | (with_reducible first | exact HB.out | apply below_alloc | apply pw_below_drewN | apply below_drew1) | exact HB.out)⟩
            · rw [if_neg c8] at H
              have c8b0 : (t131 == 3) = false := beq_eq_false_iff_ne.mpr c8
              have c8b1 : (t131 != 3) = true := bne_iff_ne.mpr c8
              obtain rfl := Option.some.inj H
              go_enter Try.func8, Try.ntmps8
              go_wp2_with (first | ((with_reducible refine gate_callee (f := 9) rfl ?_); refine goesL_ (some 2) rfl rfl Try.func9 (by kernel_rfl) rfl #[.int .i64 10] rfl (by (try simp only [List.map_toArray, List.map_cons, List.map_nil]); first | done | rfl | (simp only [List.length_drop, List.length_take]; rfl)) ?_; (with_reducible refine (sieve_Primes.calls k 10 t126 _ A1.out).mono ?_); rintro e w14 ⟨v127, rfl, ho0, hb⟩; refine ⟨_, rfl, ?_⟩; have n0_ := Aside0.mk (Kd.R_lower ho0 (below_size (by repeat (first | (with_reducible first | exact HB.out | apply below_alloc | apply pw_below_drewN | apply below_drew1) | exact HB.out)))); have n1_ := Aside0.mk (below_step (by repeat (first | (with_reducible first | exact HB.out | apply below_alloc | apply pw_below_drewN | apply below_drew1) | exact HB.out)) hb); clear HB; have HO128 := n0_; have HB := n1_; clear n0_ n1_; (try clear hb); (try clear hb2); (try clear hk); (try clear hi); (try clear ho0); obtain ⟨Ao15, co15, eo15⟩ := Kd.R_slice HO128.out; subst eo15; have p129 : 0 ≤ (0 : Int) := (by omega); have q129 : 0 < (t126.length : Int) := of_decide_eq_true (by first | (with_reducible assumption) | assumption); obtain ⟨ad129, e129, hx129_0⟩ := Kd.at_int (Kd.R_reads' HO128.out).2.2 0 p129 q129; cases e129; have qi129 : (0 < t126.length) = True := eq_true (by omega); (try rw [show ((0 : Int)).toNat = 0 from rfl] at hx129_0); (try rw [Addr.add_zero'] at hx129_0); replace p129 := eq_true p129; replace q129 := eq_true q129; have p130 : 0 ≤ (3 : Int) := (by omega); have q130 : 3 < (t126.length : Int) := of_decide_eq_true (by first | (with_reducible assumption) | assumption); obtain ⟨ad130, e130, hx130_0⟩ := Kd.at_int (Kd.R_reads' HO128.out).2.2 3 p130 q130; obtain rfl : ad129 = ad130 := (by injection e130); (try simp only [show (3 : Int).toNat = 3 from rfl, Nat.reduceMul, Nat.reduceEqDiff, Go.Addr.add, ↓reduceIte] at hx130_0); have qi130 : (3 < t126.length) = True := eq_true (by omega); (try rw [show ((3 : Int)).toNat = 3 from rfl] at hx130_0); replace p130 := eq_true p130; replace q130 := eq_true q130) | (go_at_call 14; (with_reducible refine (sieve_Generator.calls k 7 t131 _ A7.out).mono ?_); rintro e w16 ⟨rfl, hb⟩; have n0_ := Aside0.mk (Kd.R_below (by (with_reducible repeat (first | apply Kd.R_alloc | apply Kd.R_drewN | apply Kd.R_drew)); exact HO128.out) hb); have n1_ := Aside0.mk (below_step (by repeat (first | (with_reducible first | exact HB.out | apply below_alloc | apply pw_below_drewN | apply below_drew1) | exact HB.out)) hb); clear HO128; clear HB; have HO128 := n0_; have HB := n1_; clear n0_ n1_; (try clear hb); (try clear hb2); (try clear hk); (try clear hi)))
              go_ret
              exact ⟨by first | rfl | (simp [errW_none, errW_some] <;> rfl) | (simp [*, errW_none, errW_some] <;> rfl), by repeat (first | (with_reducible first | exact HB.out | apply below_alloc | apply pw_below_drewN | apply below_drew1) | exact HB.out)⟩
          · rw [if_neg c6] at H
            have c6b0 : ((rd t126 3) == 7) = false := beq_eq_false_iff_ne.mpr c6
            have c6b1 : ((rd t126 3) != 7) = true := bne_iff_ne.mpr c6
            obtain rfl := Option.some.inj H
            go_enter Try.func8, Try.ntmps8
            go_wp2_with (first | ((with_reducible refine gate_callee (f := 9) rfl ?_); refine goesL_ (some 2) rfl rfl Try.func9 (by kernel_rfl) rfl #[.int .i64 10] rfl (by (try simp only [List.map_toArray, List.map_cons, List.map_nil]); first | done | rfl | (simp only [List.length_drop, List.length_take]; rfl)) ?_; (with_reducible refine (sieve_Primes.calls k 10 t126 _ A1.out).mono ?_); rintro e w17 ⟨v127, rfl, ho0, hb⟩; refine ⟨_, rfl, ?_⟩; have n0_ := Aside0.mk (Kd.R_lower ho0 (below_size (by repeat (first | (with_reducible first | exact HB.out | apply below_alloc | apply pw_below_drewN | apply below_drew1) | exact HB.out)))); have n1_ := Aside0.mk (below_step (by repeat (first | (with_reducible first | exact HB.out | apply below_alloc | apply pw_below_drewN | apply below_drew1) | exact HB.out)) hb); clear HB; have HO128 := n0_; have HB := n1_; clear n0_ n1_; (try clear hb); (try clear hb2); (try clear hk); (try clear hi); (try clear ho0); obtain ⟨Ao18, co18, eo18⟩ := Kd.R_slice HO128.out; subst eo18; have p129 : 0 ≤ (0 : Int) := (by omega); have q129 : 0 < (t126.length : Int) := of_decide_eq_true (by first | (with_reducible assumption) | assumption); obtain ⟨ad129, e129, hx129_0⟩ := Kd.at_int (Kd.R_reads' HO128.out).2.2 0 p129 q129; cases e129; have qi129 : (0 < t126.length) = True := eq_true (by omega); (try rw [show ((0 : Int)).toNat = 0 from rfl] at hx129_0); (try rw [Addr.add_zero'] at hx129_0); replace p129 := eq_true p129; replace q129 := eq_true q129; have p130 : 0 ≤ (3 : Int) := (by omega); have q130 : 3 < (t126.length : Int) := of_decide_eq_true (by first | (with_reducible assumption) | assumption); obtain ⟨ad130, e130, hx130_0⟩ := Kd.at_int (Kd.R_reads' HO128.out).2.2 3 p130 q130; obtain rfl : ad129 = ad130 := (by injection e130); (try simp only [show (3 : Int).toNat = 3 from rfl, Nat.reduceMul, Nat.reduceEqDiff, Go.Addr.add, ↓reduceIte] at hx130_0); have qi130 : (3 < t126.length) = True := eq_true (by omega); (try rw [show ((3 : Int)).toNat = 3 from rfl] at hx130_0); replace p130 := eq_true p130; replace q130 := eq_true q130))
            go_ret
            exact ⟨by first | rfl | (simp [errW_none, errW_some] <;> rfl) | (simp [*, errW_none, errW_some] <;> rfl), by repeat (first | (with_reducible first | exact HB.out | apply below_alloc | apply pw_below_drewN | apply below_drew1) | exact HB.out)⟩
        · rw [if_neg c5] at H
          exact absurd H (by simp)
      · rw [if_neg c4] at H
        have c4b0 : ((rd t126 0) == 2) = false := beq_eq_false_iff_ne.mpr c4
        have c4b1 : ((rd t126 0) != 2) = true := bne_iff_ne.mpr c4
        obtain rfl := Option.some.inj H
        go_enter Try.func8, Try.ntmps8
        go_wp2_with (first | ((with_reducible refine gate_callee (f := 9) rfl ?_); refine goesL_ (some 2) rfl rfl Try.func9 (by kernel_rfl) rfl #[.int .i64 10] rfl (by (try simp only [List.map_toArray, List.map_cons, List.map_nil]); first | done | rfl | (simp only [List.length_drop, List.length_take]; rfl)) ?_; (with_reducible refine (sieve_Primes.calls k 10 t126 _ A1.out).mono ?_); rintro e w19 ⟨v127, rfl, ho0, hb⟩; refine ⟨_, rfl, ?_⟩; have n0_ := Aside0.mk (Kd.R_lower ho0 (below_size (by repeat (first | (with_reducible first | exact HB.out | apply below_alloc | apply pw_below_drewN | apply below_drew1) | exact HB.out)))); have n1_ := Aside0.mk (below_step (by repeat (first | (with_reducible first | exact HB.out | apply below_alloc | apply pw_below_drewN | apply below_drew1) | exact HB.out)) hb); clear HB; have HO128 := n0_; have HB := n1_; clear n0_ n1_; (try clear hb); (try clear hb2); (try clear hk); (try clear hi); (try clear ho0); obtain ⟨Ao20, co20, eo20⟩ := Kd.R_slice HO128.out; subst eo20; have p129 : 0 ≤ (0 : Int) := (by omega); have q129 : 0 < (t126.length : Int) := of_decide_eq_true (by first | (with_reducible assumption) | assumption); obtain ⟨ad129, e129, hx129_0⟩ := Kd.at_int (Kd.R_reads' HO128.out).2.2 0 p129 q129; cases e129; have qi129 : (0 < t126.length) = True := eq_true (by omega); (try rw [show ((0 : Int)).toNat = 0 from rfl] at hx129_0); (try rw [Addr.add_zero'] at hx129_0); replace p129 := eq_true p129; replace q129 := eq_true q129))
        go_ret
        exact ⟨by first | rfl | (simp [errW_none, errW_some] <;> rfl) | (simp [*, errW_none, errW_some] <;> rfl), by repeat (first | (with_reducible first | exact HB.out | apply below_alloc | apply pw_below_drewN | apply below_drew1) | exact HB.out)⟩
    · rw [if_neg c3] at H
      exact absurd H (by simp)
  · rw [if_neg c2] at H
    have c2b0 : ((t126.length : Int) == 4) = false := beq_eq_false_iff_ne.mpr c2
    have c2b1 : ((t126.length : Int) != 4) = true := bne_iff_ne.mpr c2
    obtain rfl := Option.some.inj H
    go_enter Try.func8, Try.ntmps8
    go_wp2_with (first | ((with_reducible refine gate_callee (f := 9) rfl ?_); refine goesL_ (some 2) rfl rfl Try.func9 (by kernel_rfl) rfl #[.int .i64 10] rfl (by (try simp only [List.map_toArray, List.map_cons, List.map_nil]); first | done | rfl | (simp only [List.length_drop, List.length_take]; rfl)) ?_; (with_reducible refine (sieve_Primes.calls k 10 t126 _ A1.out).mono ?_); rintro e w21 ⟨v127, rfl, ho0, hb⟩; refine ⟨_, rfl, ?_⟩; have n0_ := Aside0.mk (Kd.R_lower ho0 (below_size (by repeat (first | (with_reducible first | exact HB.out | apply below_alloc | apply pw_below_drewN | apply below_drew1) | exact HB.out)))); have n1_ := Aside0.mk (below_step (by repeat (first | (with_reducible first | exact HB.out | apply below_alloc | apply pw_below_drewN | apply below_drew1) | exact HB.out)) hb); clear HB; have HO128 := n0_; have HB := n1_; clear n0_ n1_; (try clear hb); (try clear hb2); (try clear hk); (try clear hi); (try clear ho0); obtain ⟨Ao22, co22, eo22⟩ := Kd.R_slice HO128.out; subst eo22))
    go_ret
    exact ⟨by first | rfl | (simp [errW_none, errW_some] <;> rfl) | (simp [*, errW_none, errW_some] <;> rfl), by repeat (first | (with_reducible first | exact HB.out | apply below_alloc | apply pw_below_drewN | apply below_drew1) | exact HB.out)⟩
end Go.Proofs.Ytcphlhphdpjnfaa.XS
end
section
namespace Go.Proofs.Ytcphlhphdpjnfaa.XS
open Go.RowKit Go.Proofs.Ytcphlhphdpjnfaa.Given Go.Proofs.Ytcphlhphdpjnfaa.Given05 Go.Proofs.YtcphlhphdpjnfaaW.PrintWords Go.Proofs.YtcphlhphdpjnfaaW.PrintLast Go.Proofs.YtcphlhphdpjnfaaW.PrintMore
attribute [local go_sem] max2_int min2_int max_two min_two max_three min_three max_four min_four   -- for this text's walks alone
set_option linter.unusedVariables false
set_option linter.unusedSimpArgs false
mutual
def epicycleref05_Prime.j0 : Nat → Int → Bool → Option (Bool)
  | 0, _, _ => none
  | k + 1, x0, x9 => if x9 = true then (some false) else (epicycleref05_Prime.l0 k x0 2)
def epicycleref05_Prime.l0 : Nat → Int → Int → Option (Bool)
  | 0, _, _ => none
  | k + 1, x0, x3 => if (IntKind.u64.wrap (x3 * x3)) ≤ x0 then (if x3 = 0 then (none) else (if (Int.tmod x0 x3) = 0 then (some false) else (epicycleref05_Prime.l0 k x0 (IntKind.u64.wrap (x3 + 1))))) else (some true)
end
def epicycleref05_Prime.f (k : Nat) (a0 : Int) : Option (Bool) := if a0 < 2 then (epicycleref05_Prime.j0 k a0 true) else (epicycleref05_Prime.j0 k a0 (decide (a0 > 4294967296)))
set_option maxHeartbeats 8000000 in
set_option maxRecDepth 100000 in
theorem epicycleref05_Prime.calls (k : Nat) (a0 : Int) (r : Bool) (w : World) (h : epicycleref05_Prime.f k a0 = some r) :
    Calls Try.prog 10 #[.int .u64 a0] w fun e w' => e = .returned (.bool r) ∧ Drawn0 w w' := by
  have H : (if a0 < 2 then (epicycleref05_Prime.j0 k a0 true) else (epicycleref05_Prime.j0 k a0 (decide (a0 > 4294967296)))) = some r := h
  clear h
  have HC2 := Aside0.mk H
  clear H
  go_enter Try.func10, Try.ntmps10
  go_upto_region 1 with (fail)
  go_cut [9] (fun v9 wc => ∃ (kq : Nat) (x9_1 : Bool), v9 = .bool x9_1 ∧ Aside0 (epicycleref05_Prime.j0 kq a0 x9_1 = some r) ∧ Aside0 (kq ≤ k) ∧ Drawn0 w wc)
  case first =>
    have H := HC2.out
    clear HC2
    by_cases c3 : a0 < 2
    · rw [if_pos c3] at H
      have c3b0 : decide (a0 < 2) = true := decide_eq_true c3
      clear c3
      (first | rw [c3b0] | (simp only [i64_w, i32_w]; rw [c3b0]) | skip)
      have H' := Aside0.mk H
      clear H
      go_wp2
      go_meet
      case rel => exact ⟨_, (true), (by first | rfl | (simp; done) | (simp [*]; done)), H', ⟨by first | omega | exact Nat.le_refl _⟩, by repeat (first | exact Drawn0.refl _ | apply Drawn0.step)⟩
    · rw [if_neg c3] at H
      have c3b0 : decide (a0 < 2) = false := decide_eq_false c3
      clear c3
      (first | rw [c3b0] | (simp only [i64_w, i32_w]; rw [c3b0]) | skip)
      have H' := Aside0.mk H
      clear H
      go_wp2
      go_meet
      case rel => exact ⟨_, (decide (a0 > 4294967296)), (by first | rfl | (simp; done) | (simp [*]; done)), H', ⟨by first | omega | exact Nat.le_refl _⟩, by repeat (first | exact Drawn0.refl _ | apply Drawn0.step)⟩
  case rest =>
    clear HC2
    try clear c1
    try clear p2
    try clear c3
    try clear c3b0
    obtain ⟨kq, x9_1, rfl, HA, HJ1, ⟨mc1, rfl⟩⟩ := hcut
    cases kq with
    | zero => exact absurd HA.out (by simp [epicycleref05_Prime.j0])
    | succ kj1 =>
      have H := HA.out
      clear HA
      simp only [epicycleref05_Prime.j0] at H
      by_cases c4 : x9_1 = true
      · subst c4
        have H1 : (some false) = some r := by rw [if_pos rfl] at H <;> exact H
        clear H
        have H := H1
        clear H1
        obtain rfl := Option.some.inj H
        go_wp2
        go_ret
        exact ⟨by first | rfl | (simp; done) | (simp [*]; done), by repeat (first | exact Drawn0.refl _ | apply Drawn0.step)⟩
      · replace c4 := Bool.eq_false_iff.mpr c4
        subst c4
        have H1 : (epicycleref05_Prime.l0 kj1 a0 2) = some r := by rw [if_neg (show ¬ (false = true) by decide)] at H <;> exact H
        clear H
        have H := H1
        clear H1
        have H' := Aside0.mk H
        clear H
        go_wp2
        go_loopg [3] kj1 (fun kq v3 w' => ∃ (x3_2 : Int), v3 = .int .u64 x3_2 ∧ Aside0 (epicycleref05_Prime.l0 kq a0 x3_2 = some r) ∧ Aside0 (kq ≤ kj1) ∧ Drawn0 w w')
        case atStart => exact ⟨(2), (by first | rfl | (simp; done) | (simp [*]; done)), H', ⟨Nat.le_refl _⟩, by repeat (first | exact Drawn0.refl _ | apply Drawn0.step)⟩
        case round =>
          clear H'
          try clear c1
          try clear p2
          try clear c3
          try clear c3b0
          try clear c4
          try clear p2
          obtain ⟨x3_2, rfl, HA, HK2, ⟨m2, rfl⟩⟩ := hrel
          cases gk with
          | zero => exact absurd HA.out (by simp [epicycleref05_Prime.l0])
          | succ k2 =>
            have H := HA.out
            clear HA
            simp only [epicycleref05_Prime.l0] at H
            by_cases c5 : (IntKind.u64.wrap (x3_2 * x3_2)) ≤ a0
            · rw [if_pos c5] at H
              have c5b0 : decide ((IntKind.u64.wrap (x3_2 * x3_2)) ≤ a0) = true := decide_eq_true c5
              clear c5
              by_cases c6 : x3_2 = 0
              · rw [if_pos c6] at H
                exact absurd H (by simp)
              · rw [if_neg c6] at H
                have c6b0 : (x3_2 == 0) = false := beq_eq_false_iff_ne.mpr c6
                have c6b1 : (x3_2 != 0) = true := bne_iff_ne.mpr c6
                by_cases c7 : (Int.tmod a0 x3_2) = 0
                · rw [if_pos c7] at H
                  have c7b0 : ((Int.tmod a0 x3_2) == 0) = true := beq_iff_eq.mpr c7
                  have c7b1 : ((Int.tmod a0 x3_2) != 0) = false := bne_eq_false_iff_eq.mpr c7
                  clear c7
                  obtain rfl := Option.some.inj H
                  go_wp2
                  go_ret
                  exact ⟨by first | rfl | (simp; done) | (simp [*]; done), by repeat (first | exact Drawn0.refl _ | apply Drawn0.step)⟩
                · rw [if_neg c7] at H
                  have c7b0 : ((Int.tmod a0 x3_2) == 0) = false := beq_eq_false_iff_ne.mpr c7
                  have c7b1 : ((Int.tmod a0 x3_2) != 0) = true := bne_iff_ne.mpr c7
                  have H' := Aside0.mk H
                  clear H
                  go_wp2
                  go_roundg k2
                  case measure => have := HJ1.out; have := HK2.out; omega
                  case rel => exact ⟨(IntKind.u64.wrap (x3_2 + 1)), (by first | rfl | (simp; done) | (simp [*]; done)), H', ⟨by have := HJ1.out; have := HK2.out; omega⟩, by repeat (first | exact Drawn0.refl _ | apply Drawn0.step)⟩
            · rw [if_neg c5] at H
              have c5b0 : decide ((IntKind.u64.wrap (x3_2 * x3_2)) ≤ a0) = false := decide_eq_false c5
              clear c5
              obtain rfl := Option.some.inj H
              go_wp2
              go_ret
              exact ⟨by first | rfl | (simp; done) | (simp [*]; done), by repeat (first | exact Drawn0.refl _ | apply Drawn0.step)⟩
mutual
def epicyclelaw05_SievePrimes.l0 : Nat → Int → Int → List Int → Bool → List Int → Int → Int → Option (Bool)
  | 0, _, _, _, _, _, _, _ => none
  | k + 1, x0, x1, x5, x6, x13, x14, x15 => if x15 < x14 then (if 0 ≤ x15 then (if x15 < (x13.length : Int) then (if x15 > 0 then (if 0 ≤ (wrap64 (x15 - 1)) then (if (wrap64 (x15 - 1)) < (x5.length : Int) then (epicyclelaw05_SievePrimes.j1 k x0 x1 x5 x6 (rd x13 x15) x13 x14 x15 (decide ((rd x5 (wrap64 (x15 - 1))) ≥ (rd x13 x15)))) else (none)) else (none)) else (epicyclelaw05_SievePrimes.j1 k x0 x1 x5 x6 (rd x13 x15) x13 x14 x15 false)) else (none)) else (none)) else (if x1 ≥ 2 then (if x1 ≤ x0 then (if x1 ≤ 65536 then ((epicycleref05_Prime.f k (IntKind.u64.wrap (x1))).bind fun t137 => (some (x6 == t137))) else (some (x6 == false))) else (some (x6 == false))) else (some (x6 == false)))
def epicyclelaw05_SievePrimes.j1 : Nat → Int → Int → List Int → Bool → Int → List Int → Int → Int → Bool → Option (Bool)
  | 0, _, _, _, _, _, _, _, _, _ => none
  | k + 1, x0, x1, x5, x6, x8, x13, x14, x15, x30 => if x30 = true then (some false) else (if x6 = true then (epicyclelaw05_SievePrimes.l0 k x0 x1 x5 true x13 x14 (wrap64 (x15 + 1))) else (epicyclelaw05_SievePrimes.l0 k x0 x1 x5 (x8 == x1) x13 x14 (wrap64 (x15 + 1))))
end
def epicyclelaw05_SievePrimes.f (k : Nat) (a0 : Int) (a1 : Int) : Option (Bool) := (epicyclelaw05_alive.f k).bind fun t133 => (if t133 = true then ((sieve_Primes.f k a0).bind fun t134 => (epicyclelaw05_SievePrimes.l0 k a0 a1 t134 false t134 (t134.length : Int) 0)) else (some false))
set_option maxHeartbeats 8000000 in
set_option maxRecDepth 100000 in
theorem epicyclelaw05_SievePrimes.calls (k : Nat) (a0 : Int) (a1 : Int) (w : World) (h : epicyclelaw05_SievePrimes.f k a0 a1 = some true) :
    Calls Try.prog 3 #[.int .i64 a0, .int .i64 a1] w fun e w' => e = .returned (.bool true) ∧ Below w.heap.size w w' := by
  have HB := Aside0.mk (Below.refl w.heap.size w)
  have H : ((epicyclelaw05_alive.f k).bind fun t133 => (if t133 = true then ((sieve_Primes.f k a0).bind fun t134 => (epicyclelaw05_SievePrimes.l0 k a0 a1 t134 false t134 (t134.length : Int) 0)) else (some false))) = some true := h
  clear h
  replace H := Option.bind_eq_some_iff.mp H
  obtain ⟨t133, A30, H⟩ := H
  replace H : (if t133 = true then ((sieve_Primes.f k a0).bind fun t134 => (epicyclelaw05_SievePrimes.l0 k a0 a1 t134 false t134 (t134.length : Int) 0)) else (some false)) = some true := H
  have A3 := Aside0.mk A30
  clear A30
  by_cases c4 : t133 = true
  · subst c4
    have H1 : ((sieve_Primes.f k a0).bind fun t134 => (epicyclelaw05_SievePrimes.l0 k a0 a1 t134 false t134 (t134.length : Int) 0)) = some true := by rw [if_pos rfl] at H <;> exact H
    clear H
    have H := H1
    clear H1
    replace H := Option.bind_eq_some_iff.mp H
    obtain ⟨t134, A50, H⟩ := H
    replace H : (epicyclelaw05_SievePrimes.l0 k a0 a1 t134 false t134 (t134.length : Int) 0) = some true := H
    have A5 := Aside0.mk A50
    clear A50
    have H' := Aside0.mk H
    clear H
    go_enter Try.func3, Try.ntmps3
    go_wp2_with (first | ((with_reducible refine gate_callee (f := 8) rfl ?_); refine goesL_ (some 9) rfl rfl Try.func8 (by kernel_rfl) rfl #[] rfl (by (try simp only [List.map_toArray, List.map_cons, List.map_nil]); first | done | rfl | (simp only [List.length_drop, List.length_take]; rfl)) ?_; (with_reducible refine (epicyclelaw05_alive.calls k  true _ A3.out).mono ?_); rintro e w6 ⟨rfl, hb⟩; refine ⟨_, rfl, ?_⟩; have n0_ := Aside0.mk (below_step (by repeat (first | (with_reducible first | exact HB.out | apply below_alloc | apply pw_below_drewN | apply below_drew1) | exact HB.out)) hb); clear HB; have HB := n0_; clear n0_; (try clear hb); (try clear hb2); (try clear hk); (try clear hi)) | ((with_reducible refine gate_callee (f := 9) rfl ?_); refine goesL_ (some 12) rfl rfl Try.func9 (by kernel_rfl) rfl #[.int .i64 a0] rfl (by (try simp only [List.map_toArray, List.map_cons, List.map_nil]); first | done | rfl | (simp only [List.length_drop, List.length_take]; rfl)) ?_; (with_reducible refine (sieve_Primes.calls k a0 t134 _ A5.out).mono ?_); rintro e w7 ⟨v135, rfl, ho0, hb⟩; refine ⟨_, rfl, ?_⟩; have n0_ := Aside0.mk (Kd.R_lower ho0 (below_size (by repeat (first | (with_reducible first | exact HB.out | apply below_alloc | apply pw_below_drewN | apply below_drew1) | exact HB.out)))); have n1_ := Aside0.mk (below_step (by repeat (first | (with_reducible first | exact HB.out | apply below_alloc | apply pw_below_drewN | apply below_drew1) | exact HB.out)) hb); clear HB; have HO136 := n0_; have HB := n1_; clear n0_ n1_; (try clear hb); (try clear hb2); (try clear hk); (try clear hi); (try clear ho0); obtain ⟨Ao8, co8, eo8⟩ := Kd.R_slice HO136.out; subst eo8))
    go_loopg [6, 15] k (fun kq v6 v15 w' => ∃ (x6_1 : Bool) (x15_1 : Int), v6 = .bool x6_1 ∧ v15 = .int .i64 x15_1 ∧ Aside0 (epicyclelaw05_SievePrimes.l0 kq a0 a1 t134 x6_1 t134 (t134.length : Int) x15_1 = some true) ∧ Aside0 (kq ≤ k) ∧ Aside0 (Kd.R (Kd.int .i64) 3 w' w.heap.size (fun _ => True) (.slice Ao8 t134.length co8) t134) ∧ Aside0 (Kd.R (Kd.int .i64) 3 w' w.heap.size (fun _ => True) (.slice Ao8 t134.length co8) t134) ∧ Aside0 (Below w.heap.size w w'))
    case atStart => exact ⟨(false), (0), (by first | rfl | (simp; done) | (simp [*]; done)), (by first | rfl | (simp; done) | (simp [*]; done)), H', ⟨Nat.le_refl _⟩, ⟨by (with_reducible repeat (first | apply Kd.R_alloc | apply Kd.R_drewN | apply Kd.R_drew)); exact HO136.out⟩, ⟨by (with_reducible repeat (first | apply Kd.R_alloc | apply Kd.R_drewN | apply Kd.R_drew)); exact HO136.out⟩, ⟨by repeat (first | (with_reducible first | exact HB.out | apply below_alloc | apply pw_below_drewN | apply below_drew1) | exact HB.out)⟩⟩
    case round =>
      clear H'
      try clear p2
      try clear c3
      try clear c4
      try clear c8
      obtain ⟨x6_1, x15_1, rfl, rfl, HA, HK1, HO_5, HO_13, HB⟩ := hrel
      cases gk with
      | zero => exact absurd HA.out (by simp [epicyclelaw05_SievePrimes.l0])
      | succ k1 =>
        have H := HA.out
        clear HA
        simp only [epicyclelaw05_SievePrimes.l0] at H
        by_cases c9 : x15_1 < (t134.length : Int)
        · rw [if_pos c9] at H
          have c9b0 : decide (x15_1 < (t134.length : Int)) = true := decide_eq_true c9
          clear c9
          by_cases c10 : 0 ≤ x15_1
          · rw [if_pos c10] at H
            have c10b0 : decide (0 ≤ x15_1) = true := decide_eq_true c10
            clear c10
            by_cases c11 : x15_1 < (t134.length : Int)
            · rw [if_pos c11] at H
              have c11b0 : decide (x15_1 < (t134.length : Int)) = true := decide_eq_true c11
              clear c11
              have HC12 := Aside0.mk H
              clear H
              have p138 : 0 ≤ (x15_1 : Int) := of_decide_eq_true (by first | (with_reducible assumption) | assumption)
              have q138 : x15_1 < (t134.length : Int) := of_decide_eq_true (by first | (with_reducible assumption) | assumption)
              obtain ⟨ad138, e138, hx138_0⟩ := Kd.at_int (Kd.R_reads' HO_13.out).2.2 x15_1 p138 q138
              cases e138
              replace p138 := eq_true p138
              replace q138 := eq_true q138
              go_upto_region 8 with (fail)
              go_cut [30] (fun v30 wc => ∃ (kq : Nat) (x30_11 : Bool), v30 = .bool x30_11 ∧ Aside0 (epicyclelaw05_SievePrimes.j1 kq a0 a1 t134 x6_1 (rd t134 x15_1) t134 (t134.length : Int) x15_1 x30_11 = some true) ∧ Aside0 (kq ≤ k1) ∧ Aside0 (Kd.R (Kd.int .i64) 3 wc w.heap.size (fun _ => True) (.slice (some ad138) t134.length co8) t134) ∧ Aside0 (Kd.R (Kd.int .i64) 3 wc w.heap.size (fun _ => True) (.slice (some ad138) t134.length co8) t134) ∧ Aside0 (Below w.heap.size w wc))
              case first =>
                have H := HC12.out
                clear HC12
                by_cases c13 : x15_1 > 0
                · rw [if_pos c13] at H
                  have c13b0 : decide (0 < x15_1) = true := decide_eq_true c13
                  clear c13
                  (first | rw [c13b0] | (simp only [i64_w, i32_w]; rw [c13b0]) | skip)
                  obtain ⟨ji14, hji14⟩ : ∃ j_ : Int, (wrap64 (x15_1 - 1)) = j_ := ⟨_, rfl⟩
                  replace H : (if 0 ≤ (ji14) then (if (ji14) < (t134.length : Int) then (epicyclelaw05_SievePrimes.j1 k1 a0 a1 t134 x6_1 (rd t134 x15_1) t134 (t134.length : Int) x15_1 (decide ((rd t134 (ji14)) ≥ (rd t134 x15_1)))) else (none)) else (none)) = some true := by first | (rw [hji14] at H <;> exact H) | (simp only [hji14] at H ⊢; exact H)
                  have hji14w : (IntKind.i64.wrap (x15_1 - 1)) = ji14 := (i64_w _).trans hji14
                  by_cases c15 : 0 ≤ (ji14)
                  · rw [if_pos c15] at H
                    have c15b0 : decide (0 ≤ (ji14)) = true := decide_eq_true c15
                    clear c15
                    by_cases c16 : (ji14) < (t134.length : Int)
                    · rw [if_pos c16] at H
                      have c16b0 : decide ((ji14) < (t134.length : Int)) = true := decide_eq_true c16
                      clear c16
                      have H' := Aside0.mk H
                      clear H
                      have p139 : 0 ≤ ((ji14) : Int) := of_decide_eq_true (by first | (with_reducible assumption) | assumption)
                      have q139 : (ji14) < (t134.length : Int) := of_decide_eq_true (by first | (with_reducible assumption) | assumption)
                      obtain ⟨ad139, e139, hx139_0⟩ := Kd.at_int (Kd.R_reads' HO_5.out).2.2 (ji14) p139 q139
                      obtain rfl : ad138 = ad139 := (by injection e139)
                      replace p139 := eq_true p139
                      replace q139 := eq_true q139
                      go_wp2
                      go_meet
                      case rel => exact ⟨_, (decide ((rd t134 (ji14)) ≥ (rd t134 x15_1))), (by first | rfl | (simp; done) | (simp only [← hji14] <;> (first | rfl | simp)) | (simp [*]; done)), H', ⟨by have := HK1.out; first | omega | exact Nat.le_refl _⟩, ⟨by (with_reducible repeat (first | apply Kd.R_alloc | apply Kd.R_drewN | apply Kd.R_drew)); exact HO_5.out⟩, ⟨by (with_reducible repeat (first | apply Kd.R_alloc | apply Kd.R_drewN | apply Kd.R_drew)); exact HO_13.out⟩, ⟨by repeat (first | (with_reducible first | exact HB.out | apply below_alloc | apply pw_below_drewN | apply below_drew1) | exact HB.out)⟩⟩
                    · rw [if_neg c16] at H
                      exact absurd H (by simp)
                  · rw [if_neg c15] at H
                    exact absurd H (by simp)
                · rw [if_neg c13] at H
                  have c13b0 : decide (0 < x15_1) = false := decide_eq_false c13
                  clear c13
                  (first | rw [c13b0] | (simp only [i64_w, i32_w]; rw [c13b0]) | skip)
                  have H' := Aside0.mk H
                  clear H
                  go_wp2
                  go_meet
                  case rel => exact ⟨_, (false), (by first | rfl | (simp; done) | (simp [*]; done)), H', ⟨by have := HK1.out; first | omega | exact Nat.le_refl _⟩, ⟨by (with_reducible repeat (first | apply Kd.R_alloc | apply Kd.R_drewN | apply Kd.R_drew)); exact HO_5.out⟩, ⟨by (with_reducible repeat (first | apply Kd.R_alloc | apply Kd.R_drewN | apply Kd.R_drew)); exact HO_13.out⟩, ⟨by repeat (first | (with_reducible first | exact HB.out | apply below_alloc | apply pw_below_drewN | apply below_drew1) | exact HB.out)⟩⟩
              case rest =>
                clear HC12
                try clear c1
                try clear p1
                try clear q1
                try clear hx1
                try clear p2
                try clear c3
                try clear c4
                try clear p6
                try clear c8
                try clear c9
                try clear c9b0
                try clear c10
                try clear c10b0
                try clear c11
                try clear c11b0
                try clear c13
                try clear c13b0
                try clear p13
                try clear q13
                try clear hx13
                try clear c15
                try clear c15b0
                try clear c16
                try clear c16b0
                try clear hx138_0
                try clear hx139_0
                try clear p138
                try clear p139
                try clear p2
                try clear q138
                try clear q139
                obtain ⟨kq, x30_11, rfl, HA, HJ11, HO_5, HO_13, HB⟩ := hcut
                cases kq with
                | zero => exact absurd HA.out (by simp [epicyclelaw05_SievePrimes.j1])
                | succ kj11 =>
                  have H := HA.out
                  clear HA
                  simp only [epicyclelaw05_SievePrimes.j1] at H
                  by_cases c17 : x30_11 = true
                  · subst c17
                    have H1 : (some false) = some true := by rw [if_pos rfl] at H <;> exact H
                    clear H
                    have H := H1
                    clear H1
                    exact absurd H (by simp)
                  · replace c17 := Bool.eq_false_iff.mpr c17
                    subst c17
                    have H1 : (if x6_1 = true then (epicyclelaw05_SievePrimes.l0 kj11 a0 a1 t134 true t134 (t134.length : Int) (wrap64 (x15_1 + 1))) else (epicyclelaw05_SievePrimes.l0 kj11 a0 a1 t134 ((rd t134 x15_1) == a1) t134 (t134.length : Int) (wrap64 (x15_1 + 1)))) = some true := by rw [if_neg (show ¬ (false = true) by decide)] at H <;> exact H
                    clear H
                    have H := H1
                    clear H1
                    by_cases c18 : x6_1 = true
                    · subst c18
                      have H1 : (epicyclelaw05_SievePrimes.l0 kj11 a0 a1 t134 true t134 (t134.length : Int) (wrap64 (x15_1 + 1))) = some true := by rw [if_pos rfl] at H <;> exact H
                      clear H
                      have H := H1
                      clear H1
                      have H' := Aside0.mk H
                      clear H
                      go_wp2
                      go_roundg kj11
                      case measure => have := HK1.out; have := HJ11.out; omega
                      case rel => exact ⟨(true), (wrap64 (x15_1 + 1)), (by first | rfl | (simp; done) | (simp [*]; done)), (by first | rfl | (simp; done) | (simp [*]; done)), H', ⟨by have := HK1.out; have := HJ11.out; omega⟩, ⟨by (with_reducible repeat (first | apply Kd.R_alloc | apply Kd.R_drewN | apply Kd.R_drew)); exact HO_5.out⟩, ⟨by (with_reducible repeat (first | apply Kd.R_alloc | apply Kd.R_drewN | apply Kd.R_drew)); exact HO_13.out⟩, ⟨by repeat (first | (with_reducible first | exact HB.out | apply below_alloc | apply pw_below_drewN | apply below_drew1) | exact HB.out)⟩⟩
                    · replace c18 := Bool.eq_false_iff.mpr c18
                      subst c18
                      have H1 : (epicyclelaw05_SievePrimes.l0 kj11 a0 a1 t134 ((rd t134 x15_1) == a1) t134 (t134.length : Int) (wrap64 (x15_1 + 1))) = some true := by rw [if_neg (show ¬ (false = true) by decide)] at H <;> exact H
                      clear H
                      have H := H1
                      clear H1
                      have H' := Aside0.mk H
                      clear H
                      go_wp2
                      go_roundg kj11
                      case measure => have := HK1.out; have := HJ11.out; omega
                      case rel => exact ⟨(((rd t134 x15_1) == a1)), (wrap64 (x15_1 + 1)), (by first | rfl | (simp; done) | (simp [*]; done)), (by first | rfl | (simp; done) | (simp [*]; done)), H', ⟨by have := HK1.out; have := HJ11.out; omega⟩, ⟨by (with_reducible repeat (first | apply Kd.R_alloc | apply Kd.R_drewN | apply Kd.R_drew)); exact HO_5.out⟩, ⟨by (with_reducible repeat (first | apply Kd.R_alloc | apply Kd.R_drewN | apply Kd.R_drew)); exact HO_13.out⟩, ⟨by repeat (first | (with_reducible first | exact HB.out | apply below_alloc | apply pw_below_drewN | apply below_drew1) | exact HB.out)⟩⟩
            · rw [if_neg c11] at H
              exact absurd H (by simp)
          · rw [if_neg c10] at H
            exact absurd H (by simp)
        · rw [if_neg c9] at H
          have c9b0 : decide (x15_1 < (t134.length : Int)) = false := decide_eq_false c9
          clear c9
          by_cases c19 : a1 ≥ 2
          · rw [if_pos c19] at H
            have c19b0 : decide (2 ≤ a1) = true := decide_eq_true c19
            clear c19
            by_cases c20 : a1 ≤ a0
            · rw [if_pos c20] at H
              have c20b0 : decide (a1 ≤ a0) = true := decide_eq_true c20
              clear c20
              by_cases c21 : a1 ≤ 65536
              · rw [if_pos c21] at H
                have c21b0 : decide (a1 ≤ 65536) = true := decide_eq_true c21
                clear c21
                replace H := Option.bind_eq_some_iff.mp H
                obtain ⟨t137, A220, H⟩ := H
                replace H : (some (x6_1 == t137)) = some true := H
                have A22 := Aside0.mk A220
                clear A220
                have hR_ := Option.some.inj H
                go_wp2_with (first | (go_at_call 10; (with_reducible refine (epicycleref05_Prime.calls k1 (IntKind.u64.wrap (a1)) t137 _ A22.out).mono ?_); rintro e w' ⟨rfl, ⟨nd, rfl⟩⟩))
                go_ret
                exact ⟨by first | rfl | (simp [errW_none, errW_some] <;> rfl) | (simp [*, errW_none, errW_some] <;> rfl), by repeat (first | (with_reducible first | exact HB.out | apply below_alloc | apply pw_below_drewN | apply below_drew1) | exact HB.out)⟩
              · rw [if_neg c21] at H
                have c21b0 : decide (a1 ≤ 65536) = false := decide_eq_false c21
                clear c21
                have hR_ := Option.some.inj H
                go_wp2
                go_ret
                exact ⟨by first | rfl | (simp [errW_none, errW_some] <;> rfl) | (simp [*, errW_none, errW_some] <;> rfl), by repeat (first | (with_reducible first | exact HB.out | apply below_alloc | apply pw_below_drewN | apply below_drew1) | exact HB.out)⟩
            · rw [if_neg c20] at H
              have c20b0 : decide (a1 ≤ a0) = false := decide_eq_false c20
              clear c20
              have hR_ := Option.some.inj H
              go_wp2
              go_ret
              exact ⟨by first | rfl | (simp [errW_none, errW_some] <;> rfl) | (simp [*, errW_none, errW_some] <;> rfl), by repeat (first | (with_reducible first | exact HB.out | apply below_alloc | apply pw_below_drewN | apply below_drew1) | exact HB.out)⟩
          · rw [if_neg c19] at H
            have c19b0 : decide (2 ≤ a1) = false := decide_eq_false c19
            clear c19
            have hR_ := Option.some.inj H
            go_wp2
            go_ret
            exact ⟨by first | rfl | (simp [errW_none, errW_some] <;> rfl) | (simp [*, errW_none, errW_some] <;> rfl), by repeat (first | (with_reducible first | exact HB.out | apply below_alloc | apply pw_below_drewN | apply below_drew1) | exact HB.out)⟩
  · replace c4 := Bool.eq_false_iff.mpr c4
    subst c4
    have H1 : (some false) = some true := by rw [if_neg (show ¬ (false = true) by decide)] at H <;> exact H
    clear H
    have H := H1
    clear H1
    exact absurd H (by simp)
def epicyclelaw05_SievePrimes.Pure : Prop := ∀ (a0 : Int) (a1 : Int), (Lit.int .i64 a0).wf = true → (Lit.int .i64 a1).wf = true → ∃ k, epicyclelaw05_SievePrimes.f k a0 a1 = some true
theorem epicyclelaw05_SievePrimes.walk (P : epicyclelaw05_SievePrimes.Pure) (a0 : Int) (a1 : Int) (w : World) (w0 : (Lit.int .i64 a0).wf = true) (w1 : (Lit.int .i64 a1).wf = true) :
    Calls Try.prog 3 #[.int .i64 a0, .int .i64 a1] w fun e w' => e = .returned (.bool true) ∧ Below w.heap.size w w' := by
  obtain ⟨k, h⟩ := P a0 a1 w0 w1
  refine (epicyclelaw05_SievePrimes.calls k a0 a1 w h).mono ?_
  rintro e w' ⟨rfl, hd⟩
  exact ⟨rfl, hd⟩
mutual
def epicycleref05_Factor.j0 : Nat → Int → List (S34) → Bool → Option ((List (S34)))
  | 0, _, _, _ => none
  | k + 1, x0, x3, x11 => if x11 = true then (some x3) else (epicycleref05_Factor.l0 k x0 x3 2)
def epicycleref05_Factor.l0 : Nat → Int → List (S34) → Int → Option ((List (S34)))
  | 0, _, _, _ => none
  | k + 1, x0, x3, x4 => if (IntKind.u64.wrap (x4 * x4)) ≤ x0 then (epicycleref05_Factor.l1 k x0 x3 x4 0) else (if x0 > 1 then (if x3.length < 8796093022208 then (some (x3 ++ [(⟨x0, 1⟩ : S34)])) else (none)) else (some x3))
def epicycleref05_Factor.l1 : Nat → Int → List (S34) → Int → Int → Option ((List (S34)))
  | 0, _, _, _, _ => none
  | k + 1, x0, x3, x4, x5 => if x4 = 0 then (none) else (if (Int.tmod x0 x4) = 0 then (epicycleref05_Factor.l1 k (IntKind.u64.wrap (Int.tdiv x0 x4)) x3 x4 (wrap64 (x5 + 1))) else (if x5 > 0 then (if x3.length < 8796093022208 then (epicycleref05_Factor.l0 k x0 (x3 ++ [(⟨x4, x5⟩ : S34)]) (IntKind.u64.wrap (x4 + 1))) else (none)) else (epicycleref05_Factor.l0 k x0 x3 (IntKind.u64.wrap (x4 + 1)))))
end
def epicycleref05_Factor.f (k : Nat) (a0 : Int) : Option ((List (S34))) := if a0 < 2 then (epicycleref05_Factor.j0 k a0 ([] : List (S34)) true) else (epicycleref05_Factor.j0 k a0 ([] : List (S34)) (decide (a0 > 4294967296)))
set_option maxHeartbeats 8000000 in
set_option maxRecDepth 100000 in
theorem epicycleref05_Factor.calls (k : Nat) (a0 : Int) (r : List (S34)) (w : World) (h : epicycleref05_Factor.f k a0 = some r) :
    Calls Try.prog 12 #[.int .u64 a0] w fun e w' => ∃ v0_ : Value, e = .returned (v0_) ∧ Kd.R k34 34 w' w.heap.size (fun _ => True) v0_ r ∧ Below w.heap.size w w' := by
  have hu34 := Try.underlying34
  have HB := Aside0.mk (Below.refl w.heap.size w)
  have H : (if a0 < 2 then (epicycleref05_Factor.j0 k a0 ([] : List (S34)) true) else (epicycleref05_Factor.j0 k a0 ([] : List (S34)) (decide (a0 > 4294967296)))) = some r := h
  clear h
  have HC2 := Aside0.mk H
  clear H
  go_enter Try.func12, Try.ntmps12
  go_upto_region 2 with (fail)
  go_cut [11] (fun v11 wc => ∃ (kq : Nat) (x11_1 : Bool), v11 = .bool x11_1 ∧ Aside0 (epicycleref05_Factor.j0 kq a0 ([] : List (S34)) x11_1 = some r) ∧ Aside0 (kq ≤ k) ∧ Aside0 (Kd.R k34 34 wc w.heap.size (fun _ => True) (.slice none 0 0) ([] : List (S34))) ∧ Aside0 (Below w.heap.size w wc))
  case first =>
    have H := HC2.out
    clear HC2
    by_cases c3 : a0 < 2
    · rw [if_pos c3] at H
      have c3b0 : decide (a0 < 2) = true := decide_eq_true c3
      clear c3
      (first | rw [c3b0] | (simp only [i64_w, i32_w]; rw [c3b0]) | skip)
      have H' := Aside0.mk H
      clear H
      go_wp2
      go_meet
      case rel => exact ⟨_, (true), (by first | rfl | (simp; done) | (simp [*]; done)), H', ⟨by first | omega | exact Nat.le_refl _⟩, ⟨by first | exact Kd.R_nil _ _ _ _ _ | exact Kd.N_nil _ _ _ _ _ | exact Kd.V_nil _ _ _ _ _ | exact Kd.Q_nil _ _ _ _ _ | exact Kd.S_nil _ _ _ _ _⟩, ⟨by repeat (first | (with_reducible first | exact HB.out | apply below_alloc | apply pw_below_drewN | apply below_drew1) | exact HB.out)⟩⟩
    · rw [if_neg c3] at H
      have c3b0 : decide (a0 < 2) = false := decide_eq_false c3
      clear c3
      (first | rw [c3b0] | (simp only [i64_w, i32_w]; rw [c3b0]) | skip)
      have H' := Aside0.mk H
      clear H
      go_wp2
      go_meet
      case rel => exact ⟨_, (decide (a0 > 4294967296)), (by first | rfl | (simp; done) | (simp [*]; done)), H', ⟨by first | omega | exact Nat.le_refl _⟩, ⟨by first | exact Kd.R_nil _ _ _ _ _ | exact Kd.N_nil _ _ _ _ _ | exact Kd.V_nil _ _ _ _ _ | exact Kd.Q_nil _ _ _ _ _ | exact Kd.S_nil _ _ _ _ _⟩, ⟨by repeat (first | (with_reducible first | exact HB.out | apply below_alloc | apply pw_below_drewN | apply below_drew1) | exact HB.out)⟩⟩
  case rest =>
    clear HC2
    try clear c1
    try clear p2
    try clear c3
    try clear c3b0
    obtain ⟨kq, x11_1, rfl, HA, HJ1, HO_3, HB⟩ := hcut
    cases kq with
    | zero => exact absurd HA.out (by simp [epicycleref05_Factor.j0])
    | succ kj1 =>
      have H := HA.out
      clear HA
      simp only [epicycleref05_Factor.j0] at H
      by_cases c4 : x11_1 = true
      · subst c4
        have H1 : (some ([] : List (S34))) = some r := by rw [if_pos rfl] at H <;> exact H
        clear H
        have H := H1
        clear H1
        obtain rfl := Option.some.inj H
        go_wp2
        go_ret
        exact ⟨_, by first | rfl | (simp [errW_none, errW_some] <;> rfl) | (simp [*, errW_none, errW_some] <;> rfl), by (with_reducible repeat (first | apply Kd.R_alloc | apply Kd.R_drewN | apply Kd.R_drew)); exact HO_3.out, by repeat (first | (with_reducible first | exact HB.out | apply below_alloc | apply pw_below_drewN | apply below_drew1) | exact HB.out)⟩
      · replace c4 := Bool.eq_false_iff.mpr c4
        subst c4
        have H1 : (epicycleref05_Factor.l0 kj1 a0 ([] : List (S34)) 2) = some r := by rw [if_neg (show ¬ (false = true) by decide)] at H <;> exact H
        clear H
        have H := H1
        clear H1
        have H' := Aside0.mk H
        clear H
        go_wp2
        go_loopg [0, 3, 4] kj1 (fun kq v0 v3 v4 w' => ∃ (x0_2 : Int) (x3_2 : List (S34)) (x4_2 : Int), v0 = .int .u64 x0_2 ∧ v4 = .int .u64 x4_2 ∧ Aside0 (epicycleref05_Factor.l0 kq x0_2 x3_2 x4_2 = some r) ∧ Aside0 (kq ≤ kj1) ∧ Aside0 (Kd.R k34 34 w' w.heap.size (fun _ => True) v3 x3_2) ∧ Aside0 (Below w.heap.size w w'))
        case atStart => exact ⟨(a0), (([] : List (S34))), (2), (by first | rfl | (simp; done) | (simp [*]; done)), (by first | rfl | (simp; done) | (simp [*]; done)), H', ⟨Nat.le_refl _⟩, ⟨by (with_reducible repeat (first | apply Kd.R_alloc | apply Kd.R_drewN | apply Kd.R_drew)); exact HO_3.out⟩, ⟨by repeat (first | (with_reducible first | exact HB.out | apply below_alloc | apply pw_below_drewN | apply below_drew1) | exact HB.out)⟩⟩
        case round =>
          clear H'
          try clear c1
          try clear p2
          try clear c3
          try clear c3b0
          try clear c4
          try clear p2
          obtain ⟨x0_2, x3_2, x4_2, rfl, rfl, HA, HK2, HO_3, HB⟩ := hrel
          cases gk with
          | zero => exact absurd HA.out (by simp [epicycleref05_Factor.l0])
          | succ k2 =>
            have H := HA.out
            clear HA
            simp only [epicycleref05_Factor.l0] at H
            by_cases c5 : (IntKind.u64.wrap (x4_2 * x4_2)) ≤ x0_2
            · rw [if_pos c5] at H
              have c5b0 : decide ((IntKind.u64.wrap (x4_2 * x4_2)) ≤ x0_2) = true := decide_eq_true c5
              clear c5
              have H' := Aside0.mk H
              clear H
              go_wp2
              go_loopg [0, 5] k2 (fun kq v0 v5 w' => ∃ (x0_3 : Int) (x5_3 : Int), v0 = .int .u64 x0_3 ∧ v5 = .int .i64 x5_3 ∧ Aside0 (epicycleref05_Factor.l1 kq x0_3 x3_2 x4_2 x5_3 = some r) ∧ Aside0 (kq ≤ k2) ∧ Aside0 (Kd.R k34 34 w' w.heap.size (fun _ => True) u3 x3_2) ∧ Aside0 (Below w.heap.size w w'))
              case atStart => exact ⟨(x0_2), (0), (by first | rfl | (simp; done) | (simp [*]; done)), (by first | rfl | (simp; done) | (simp [*]; done)), H', ⟨Nat.le_refl _⟩, ⟨by (with_reducible repeat (first | apply Kd.R_alloc | apply Kd.R_drewN | apply Kd.R_drew)); exact HO_3.out⟩, ⟨by repeat (first | (with_reducible first | exact HB.out | apply below_alloc | apply pw_below_drewN | apply below_drew1) | exact HB.out)⟩⟩
              case round =>
                clear H'
                try clear c1
                try clear p2
                try clear c3
                try clear c3b0
                try clear c4
                try clear c5
                try clear c5b0
                try clear p2
                obtain ⟨x0_3, x5_3, rfl, rfl, HA, HK3, HO_3, HB⟩ := hrel
                cases gk with
                | zero => exact absurd HA.out (by simp [epicycleref05_Factor.l1])
                | succ k3 =>
                  have H := HA.out
                  clear HA
                  simp only [epicycleref05_Factor.l1] at H
                  by_cases c6 : x4_2 = 0
                  · rw [if_pos c6] at H
                    exact absurd H (by simp)
                  · rw [if_neg c6] at H
                    have c6b0 : (x4_2 == 0) = false := beq_eq_false_iff_ne.mpr c6
                    have c6b1 : (x4_2 != 0) = true := bne_iff_ne.mpr c6
                    by_cases c7 : (Int.tmod x0_3 x4_2) = 0
                    · rw [if_pos c7] at H
                      have c7b0 : ((Int.tmod x0_3 x4_2) == 0) = true := beq_iff_eq.mpr c7
                      have c7b1 : ((Int.tmod x0_3 x4_2) != 0) = false := bne_eq_false_iff_eq.mpr c7
                      clear c7
                      have H' := Aside0.mk H
                      clear H
                      go_wp2
                      go_roundg k3
                      case measure => have := HJ1.out; have := HK2.out; have := HK3.out; omega
                      case rel => exact ⟨(IntKind.u64.wrap (Int.tdiv x0_3 x4_2)), (wrap64 (x5_3 + 1)), (by first | rfl | (simp; done) | (simp [*]; done)), (by first | rfl | (simp; done) | (simp [*]; done)), H', ⟨by have := HJ1.out; have := HK2.out; have := HK3.out; omega⟩, ⟨by (with_reducible repeat (first | apply Kd.R_alloc | apply Kd.R_drewN | apply Kd.R_drew)); exact HO_3.out⟩, ⟨by repeat (first | (with_reducible first | exact HB.out | apply below_alloc | apply pw_below_drewN | apply below_drew1) | exact HB.out)⟩⟩
                    · rw [if_neg c7] at H
                      have c7b0 : ((Int.tmod x0_3 x4_2) == 0) = false := beq_eq_false_iff_ne.mpr c7
                      have c7b1 : ((Int.tmod x0_3 x4_2) != 0) = true := bne_iff_ne.mpr c7
                      by_cases c8 : x5_3 > 0
                      · rw [if_pos c8] at H
                        have c8b0 : decide (0 < x5_3) = true := decide_eq_true c8
                        clear c8
                        by_cases c9 : x3_2.length < 8796093022208
                        · rw [if_pos c9] at H
                          have LMc9 := Aside0.mk c9
                          clear c9
                          obtain ⟨y140, hy140⟩ : ∃ y_ : List (S34), y_ = (x3_2 ++ [(⟨x4_2, x5_3⟩ : S34)]) := ⟨_, rfl⟩
                          replace H : (epicycleref05_Factor.l0 k3 x0_3 y140 (IntKind.u64.wrap (x4_2 + 1))) = some r := by first | (rw [hy140]; with_reducible exact H) | (have H2_ := (Option.bind_some _ _).symm.trans H; rw [hy140]; with_reducible exact H2_) | (have H2_ := (Option.bind_some _ _).symm.trans H; with_reducible exact H2_) | with_reducible exact H | (rw [hy140]; exact H) | exact H
                          have Ny140 := Aside0.mk hy140
                          clear hy140
                          have H' := Aside0.mk H
                          clear H
                          go_wp2_with (first | ((with_reducible refine gate_builtin (b := .append) (xs := #[.tmp 31, .tmp 35]) rfl ?_); at_builtin; refine Kd.R_append k34 (w0 := w) w.heap.size rfl (.tmp 31) (.tmp 35) 30 34 (.agg #[(.int .u64 0), (.int .i64 0)]) 16 rfl Try.underlying30 info34 rfl (by decide) (by omega) u3 x3_2 (⟨x4_2, x5_3⟩ : S34) [.int .u64 x4_2, .int .i64 x5_3] (fun _ => True) (fun _ => False) rfl rfl ?aP (fun _ hk => hk.elim) ?aF ?aO ?aB ?aS ?aL ?_; (case aP => exact k34_mkM _ _ _ (⟨x4_2, x5_3⟩ : S34)); (case aB => exact (by repeat (first | (with_reducible first | exact HB.out | apply below_alloc | apply pw_below_drewN | apply below_drew1) | exact HB.out))); (case aF => exact (fun _ _ => trivial)); (case aO => exact (by (with_reducible repeat (first | apply Kd.R_alloc | apply Kd.R_drewN | apply Kd.R_drew)); exact HO_3.out)); (case aS => exact (below_size (by repeat (first | (with_reducible first | exact HB.out | apply below_alloc | apply pw_below_drewN | apply below_drew1) | exact HB.out)))); (case aL => have := LMc9.out; omega); intro v141 w10 ho hb hg hat; rw [← Ny140.out] at ho; have n0_ := Aside0.mk (hb); have n1_ := Aside0.mk (ho); clear HB; clear HO_3; have HB := n0_; have HO142 := n1_; clear n0_ n1_; clear ho hb hg hat))
                          go_roundg k3
                          case measure => have := HJ1.out; have := HK2.out; have := HK3.out; omega
                          case rel => exact ⟨(x0_3), (y140), (IntKind.u64.wrap (x4_2 + 1)), (by first | rfl | (simp; done) | (simp [*]; done)), (by first | rfl | (simp; done) | (simp [*]; done)), H', ⟨by have := HJ1.out; have := HK2.out; have := HK3.out; omega⟩, ⟨by (with_reducible repeat (first | apply Kd.R_alloc | apply Kd.R_drewN | apply Kd.R_drew)); exact HO142.out⟩, ⟨by repeat (first | (with_reducible first | exact HB.out | apply below_alloc | apply pw_below_drewN | apply below_drew1) | exact HB.out)⟩⟩
                        · rw [if_neg c9] at H
                          exact absurd H (by simp)
                      · rw [if_neg c8] at H
                        have c8b0 : decide (0 < x5_3) = false := decide_eq_false c8
                        clear c8
                        have H' := Aside0.mk H
                        clear H
                        go_wp2
                        go_roundg k3
                        case measure => have := HJ1.out; have := HK2.out; have := HK3.out; omega
                        case rel => exact ⟨(x0_3), (x3_2), (IntKind.u64.wrap (x4_2 + 1)), (by first | rfl | (simp; done) | (simp [*]; done)), (by first | rfl | (simp; done) | (simp [*]; done)), H', ⟨by have := HJ1.out; have := HK2.out; have := HK3.out; omega⟩, ⟨by (with_reducible repeat (first | apply Kd.R_alloc | apply Kd.R_drewN | apply Kd.R_drew)); exact HO_3.out⟩, ⟨by repeat (first | (with_reducible first | exact HB.out | apply below_alloc | apply pw_below_drewN | apply below_drew1) | exact HB.out)⟩⟩
            · rw [if_neg c5] at H
              have c5b0 : decide ((IntKind.u64.wrap (x4_2 * x4_2)) ≤ x0_2) = false := decide_eq_false c5
              clear c5
              by_cases c11 : x0_2 > 1
              · rw [if_pos c11] at H
                have c11b0 : decide (1 < x0_2) = true := decide_eq_true c11
                clear c11
                by_cases c12 : x3_2.length < 8796093022208
                · rw [if_pos c12] at H
                  have LMc12 := Aside0.mk c12
                  clear c12
                  obtain ⟨y143, hy143⟩ : ∃ y_ : List (S34), y_ = (x3_2 ++ [(⟨x0_2, 1⟩ : S34)]) := ⟨_, rfl⟩
                  replace H : (some y143) = some r := by first | (rw [hy143]; with_reducible exact H) | (have H2_ := (Option.bind_some _ _).symm.trans H; rw [hy143]; with_reducible exact H2_) | (have H2_ := (Option.bind_some _ _).symm.trans H; with_reducible exact H2_) | with_reducible exact H | (rw [hy143]; exact H) | exact H
                  have Ny143 := Aside0.mk hy143
                  clear hy143
                  obtain rfl := Option.some.inj H
                  go_wp2_with (first | ((with_reducible refine gate_builtin (b := .append) (xs := #[.tmp 39, .tmp 42]) rfl ?_); at_builtin; refine Kd.R_append k34 (w0 := w) w.heap.size rfl (.tmp 39) (.tmp 42) 30 34 (.agg #[(.int .u64 0), (.int .i64 0)]) 16 rfl Try.underlying30 info34 rfl (by decide) (by omega) u3 x3_2 (⟨x0_2, 1⟩ : S34) [.int .u64 x0_2, .int .i64 1] (fun _ => True) (fun _ => False) rfl rfl ?aP (fun _ hk => hk.elim) ?aF ?aO ?aB ?aS ?aL ?_; (case aP => exact k34_mkM _ _ _ (⟨x0_2, 1⟩ : S34)); (case aB => exact (by repeat (first | (with_reducible first | exact HB.out | apply below_alloc | apply pw_below_drewN | apply below_drew1) | exact HB.out))); (case aF => exact (fun _ _ => trivial)); (case aO => exact (by (with_reducible repeat (first | apply Kd.R_alloc | apply Kd.R_drewN | apply Kd.R_drew)); exact HO_3.out)); (case aS => exact (below_size (by repeat (first | (with_reducible first | exact HB.out | apply below_alloc | apply pw_below_drewN | apply below_drew1) | exact HB.out)))); (case aL => have := LMc12.out; omega); intro v144 w13 ho hb hg hat; rw [← Ny143.out] at ho; have n0_ := Aside0.mk (hb); have n1_ := Aside0.mk (ho); clear HB; clear HO_3; have HB := n0_; have HO145 := n1_; clear n0_ n1_; clear ho hb hg hat))
                  go_ret
                  exact ⟨_, by first | rfl | (simp [errW_none, errW_some] <;> rfl) | (simp [*, errW_none, errW_some] <;> rfl), by (with_reducible repeat (first | apply Kd.R_alloc | apply Kd.R_drewN | apply Kd.R_drew)); exact HO145.out, by repeat (first | (with_reducible first | exact HB.out | apply below_alloc | apply pw_below_drewN | apply below_drew1) | exact HB.out)⟩
                · rw [if_neg c12] at H
                  exact absurd H (by simp)
              · rw [if_neg c11] at H
                have c11b0 : decide (1 < x0_2) = false := decide_eq_false c11
                clear c11
                obtain rfl := Option.some.inj H
                go_wp2
                go_ret
                exact ⟨_, by first | rfl | (simp [errW_none, errW_some] <;> rfl) | (simp [*, errW_none, errW_some] <;> rfl), by (with_reducible repeat (first | apply Kd.R_alloc | apply Kd.R_drewN | apply Kd.R_drew)); exact HO_3.out, by repeat (first | (with_reducible first | exact HB.out | apply below_alloc | apply pw_below_drewN | apply below_drew1) | exact HB.out)⟩
end Go.Proofs.Ytcphlhphdpjnfaa.XS
end
section
namespace Go.Proofs.Ytcphlhphdpjnfaa.XS
open Go.RowKit Go.Proofs.Ytcphlhphdpjnfaa.Given Go.Proofs.Ytcphlhphdpjnfaa.Given05 Go.Proofs.YtcphlhphdpjnfaaW.PrintWords Go.Proofs.YtcphlhphdpjnfaaW.PrintLast Go.Proofs.YtcphlhphdpjnfaaW.PrintMore
attribute [local go_sem] max2_int min2_int max_two min_two max_three min_three max_four min_four   -- for this text's walks alone
set_option linter.unusedVariables false
set_option linter.unusedSimpArgs false
mutual
def epicyclelaw05_SieveFactors.j0 : Nat → Int → List (S33) → List (S34) → Bool → Option (Bool)
  | 0, _, _, _, _ => none
  | k + 1, x0, x3, x4, x26 => if x26 = true then (some false) else (epicyclelaw05_SieveFactors.l0 k x0 x4 1 x3 (x3.length : Int) 0)
def epicyclelaw05_SieveFactors.l0 : Nat → Int → List (S34) → Int → List (S33) → Int → Int → Option (Bool)
  | 0, _, _, _, _, _, _ => none
  | k + 1, x0, x4, x5, x27, x28, x29 => if x29 < x28 then (if 0 ≤ x29 then (if x29 < (x27.length : Int) then (if x29 < (x4.length : Int) then (if ((rd_T33 x27 x29).f0) = ((rd_T34 x4 x29).f0) then (epicyclelaw05_SieveFactors.j2 k x0 x4 x5 x27 x28 x29 (((rd_T33 x27 x29).f1) != ((rd_T34 x4 x29).f1)) ((rd_T33 x27 x29).f0) ((rd_T33 x27 x29).f1)) else (epicyclelaw05_SieveFactors.j2 k x0 x4 x5 x27 x28 x29 true ((rd_T33 x27 x29).f0) ((rd_T33 x27 x29).f1))) else (none)) else (none)) else (none)) else (if x5 = x0 then (some true) else (if x0 < 2 then (some true) else (some (decide (x0 > 4294967296)))))
def epicyclelaw05_SieveFactors.j2 : Nat → Int → List (S34) → Int → List (S33) → Int → Int → Bool → Int → Int → Option (Bool)
  | 0, _, _, _, _, _, _, _, _, _ => none
  | k + 1, x0, x4, x5, x27, x28, x29, x51, x157000, x157001 => if x51 = true then (some false) else (epicyclelaw05_SieveFactors.l1 k x0 x4 x5 0 x27 x28 x29 x157000 x157001)
def epicyclelaw05_SieveFactors.l1 : Nat → Int → List (S34) → Int → Int → List (S33) → Int → Int → Int → Int → Option (Bool)
  | 0, _, _, _, _, _, _, _, _, _ => none
  | k + 1, x0, x4, x5, x8, x27, x28, x29, x157000, x157001 => if x8 < x157001 then (epicyclelaw05_SieveFactors.l1 k x0 x4 (IntKind.u64.wrap (x5 * x157000)) (wrap64 (x8 + 1)) x27 x28 x29 x157000 x157001) else (epicyclelaw05_SieveFactors.l0 k x0 x4 x5 x27 x28 (wrap64 (x29 + 1)))
end
def epicyclelaw05_SieveFactors.f (k : Nat) (a0 : Int) : Option (Bool) := (epicyclelaw05_alive.f k).bind fun t146 => (if t146 = true then ((sieve_Factor.f k a0).bind fun t147 => ((epicycleref05_Factor.f k a0).bind fun t150 => (if (t147.length : Int) = (t150.length : Int) then ((sieve_Prime.f k a0).bind fun t153 => ((epicycleref05_Prime.f k a0).bind fun t154 => (epicyclelaw05_SieveFactors.j0 k a0 t147 t150 (t153 != t154)))) else (epicyclelaw05_SieveFactors.j0 k a0 t147 t150 true)))) else (some false))
set_option maxHeartbeats 8000000 in
set_option maxRecDepth 100000 in
theorem epicyclelaw05_SieveFactors.calls (k : Nat) (a0 : Int) (w : World) (h : epicyclelaw05_SieveFactors.f k a0 = some true) :
    Calls Try.prog 4 #[.int .u64 a0] w fun e w' => e = .returned (.bool true) ∧ Below w.heap.size w w' := by
  have hu33 := Try.underlying33
  have HB := Aside0.mk (Below.refl w.heap.size w)
  have H : ((epicyclelaw05_alive.f k).bind fun t146 => (if t146 = true then ((sieve_Factor.f k a0).bind fun t147 => ((epicycleref05_Factor.f k a0).bind fun t150 => (if (t147.length : Int) = (t150.length : Int) then ((sieve_Prime.f k a0).bind fun t153 => ((epicycleref05_Prime.f k a0).bind fun t154 => (epicyclelaw05_SieveFactors.j0 k a0 t147 t150 (t153 != t154)))) else (epicyclelaw05_SieveFactors.j0 k a0 t147 t150 true)))) else (some false))) = some true := h
  clear h
  replace H := Option.bind_eq_some_iff.mp H
  obtain ⟨t146, A20, H⟩ := H
  replace H : (if t146 = true then ((sieve_Factor.f k a0).bind fun t147 => ((epicycleref05_Factor.f k a0).bind fun t150 => (if (t147.length : Int) = (t150.length : Int) then ((sieve_Prime.f k a0).bind fun t153 => ((epicycleref05_Prime.f k a0).bind fun t154 => (epicyclelaw05_SieveFactors.j0 k a0 t147 t150 (t153 != t154)))) else (epicyclelaw05_SieveFactors.j0 k a0 t147 t150 true)))) else (some false)) = some true := H
  have A2 := Aside0.mk A20
  clear A20
  by_cases c3 : t146 = true
  · subst c3
    have H1 : ((sieve_Factor.f k a0).bind fun t147 => ((epicycleref05_Factor.f k a0).bind fun t150 => (if (t147.length : Int) = (t150.length : Int) then ((sieve_Prime.f k a0).bind fun t153 => ((epicycleref05_Prime.f k a0).bind fun t154 => (epicyclelaw05_SieveFactors.j0 k a0 t147 t150 (t153 != t154)))) else (epicyclelaw05_SieveFactors.j0 k a0 t147 t150 true)))) = some true := by rw [if_pos rfl] at H <;> exact H
    clear H
    have H := H1
    clear H1
    replace H := Option.bind_eq_some_iff.mp H
    obtain ⟨t147, A40, H⟩ := H
    replace H : ((epicycleref05_Factor.f k a0).bind fun t150 => (if (t147.length : Int) = (t150.length : Int) then ((sieve_Prime.f k a0).bind fun t153 => ((epicycleref05_Prime.f k a0).bind fun t154 => (epicyclelaw05_SieveFactors.j0 k a0 t147 t150 (t153 != t154)))) else (epicyclelaw05_SieveFactors.j0 k a0 t147 t150 true))) = some true := H
    have A4 := Aside0.mk A40
    clear A40
    replace H := Option.bind_eq_some_iff.mp H
    obtain ⟨t150, A50, H⟩ := H
    replace H : (if (t147.length : Int) = (t150.length : Int) then ((sieve_Prime.f k a0).bind fun t153 => ((epicycleref05_Prime.f k a0).bind fun t154 => (epicyclelaw05_SieveFactors.j0 k a0 t147 t150 (t153 != t154)))) else (epicyclelaw05_SieveFactors.j0 k a0 t147 t150 true)) = some true := H
    have A5 := Aside0.mk A50
    clear A50
    have HC6 := Aside0.mk H
    clear H
    go_enter Try.func4, Try.ntmps4
    go_upto_region 4 with (first | (go_at_call 8; (with_reducible refine (epicyclelaw05_alive.calls k  true _ A2.out).mono ?_); rintro e w7 ⟨rfl, hb⟩; have n0_ := Aside0.mk (below_step (by repeat (first | (with_reducible first | exact HB.out | apply below_alloc | apply pw_below_drewN | apply below_drew1) | exact HB.out)) hb); clear HB; have HB := n0_; clear n0_; (try clear hb); (try clear hb2); (try clear hk); (try clear hi)) | (go_at_call 11; (with_reducible refine (sieve_Factor.calls k a0 t147 _ A4.out).mono ?_); rintro e w8 ⟨v148, rfl, ho0, hb⟩; have n0_ := Aside0.mk (Kd.R_lower ho0 (below_size (by repeat (first | (with_reducible first | exact HB.out | apply below_alloc | apply pw_below_drewN | apply below_drew1) | exact HB.out)))); have n1_ := Aside0.mk (below_step (by repeat (first | (with_reducible first | exact HB.out | apply below_alloc | apply pw_below_drewN | apply below_drew1) | exact HB.out)) hb); clear HB; have HO149 := n0_; have HB := n1_; clear n0_ n1_; (try clear hb); (try clear hb2); (try clear hk); (try clear hi); (try clear ho0)) | (go_at_call 12; (with_reducible refine (epicycleref05_Factor.calls k a0 t150 _ A5.out).mono ?_); rintro e w9 ⟨v151, rfl, ho0, hb⟩; have n0_ := Aside0.mk (Kd.R_below (by (with_reducible repeat (first | apply Kd.R_alloc | apply Kd.R_drewN | apply Kd.R_drew)); exact HO149.out) hb); have n1_ := Aside0.mk (Kd.R_lower ho0 (below_size (by repeat (first | (with_reducible first | exact HB.out | apply below_alloc | apply pw_below_drewN | apply below_drew1) | exact HB.out)))); have n2_ := Aside0.mk (below_step (by repeat (first | (with_reducible first | exact HB.out | apply below_alloc | apply pw_below_drewN | apply below_drew1) | exact HB.out)) hb); clear HO149; clear HB; have HO149 := n0_; have HO152 := n1_; have HB := n2_; clear n0_ n1_ n2_; (try clear hb); (try clear hb2); (try clear hk); (try clear hi); (try clear ho0)))
    repeat (go_quiet (first | (go_at_call 8; (with_reducible refine (epicyclelaw05_alive.calls k  true _ A2.out).mono ?_); rintro e w7 ⟨rfl, hb⟩; have n0_ := Aside0.mk (below_step (by repeat (first | (with_reducible first | exact HB.out | apply below_alloc | apply pw_below_drewN | apply below_drew1) | exact HB.out)) hb); clear HB; have HB := n0_; clear n0_; (try clear hb); (try clear hb2); (try clear hk); (try clear hi)) | (go_at_call 11; (with_reducible refine (sieve_Factor.calls k a0 t147 _ A4.out).mono ?_); rintro e w8 ⟨v148, rfl, ho0, hb⟩; have n0_ := Aside0.mk (Kd.R_lower ho0 (below_size (by repeat (first | (with_reducible first | exact HB.out | apply below_alloc | apply pw_below_drewN | apply below_drew1) | exact HB.out)))); have n1_ := Aside0.mk (below_step (by repeat (first | (with_reducible first | exact HB.out | apply below_alloc | apply pw_below_drewN | apply below_drew1) | exact HB.out)) hb); clear HB; have HO149 := n0_; have HB := n1_; clear n0_ n1_; (try clear hb); (try clear hb2); (try clear hk); (try clear hi); (try clear ho0)) | (go_at_call 12; (with_reducible refine (epicycleref05_Factor.calls k a0 t150 _ A5.out).mono ?_); rintro e w9 ⟨v151, rfl, ho0, hb⟩; have n0_ := Aside0.mk (Kd.R_below (by (with_reducible repeat (first | apply Kd.R_alloc | apply Kd.R_drewN | apply Kd.R_drew)); exact HO149.out) hb); have n1_ := Aside0.mk (Kd.R_lower ho0 (below_size (by repeat (first | (with_reducible first | exact HB.out | apply below_alloc | apply pw_below_drewN | apply below_drew1) | exact HB.out)))); have n2_ := Aside0.mk (below_step (by repeat (first | (with_reducible first | exact HB.out | apply below_alloc | apply pw_below_drewN | apply below_drew1) | exact HB.out)) hb); clear HO149; clear HB; have HO149 := n0_; have HO152 := n1_; have HB := n2_; clear n0_ n1_ n2_; (try clear hb); (try clear hb2); (try clear hk); (try clear hi); (try clear ho0))); go_upto_region 4 with (first | (go_at_call 8; (with_reducible refine (epicyclelaw05_alive.calls k  true _ A2.out).mono ?_); rintro e w7 ⟨rfl, hb⟩; have n0_ := Aside0.mk (below_step (by repeat (first | (with_reducible first | exact HB.out | apply below_alloc | apply pw_below_drewN | apply below_drew1) | exact HB.out)) hb); clear HB; have HB := n0_; clear n0_; (try clear hb); (try clear hb2); (try clear hk); (try clear hi)) | (go_at_call 11; (with_reducible refine (sieve_Factor.calls k a0 t147 _ A4.out).mono ?_); rintro e w8 ⟨v148, rfl, ho0, hb⟩; have n0_ := Aside0.mk (Kd.R_lower ho0 (below_size (by repeat (first | (with_reducible first | exact HB.out | apply below_alloc | apply pw_below_drewN | apply below_drew1) | exact HB.out)))); have n1_ := Aside0.mk (below_step (by repeat (first | (with_reducible first | exact HB.out | apply below_alloc | apply pw_below_drewN | apply below_drew1) | exact HB.out)) hb); clear HB; have HO149 := n0_; have HB := n1_; clear n0_ n1_; (try clear hb); (try clear hb2); (try clear hk); (try clear hi); (try clear ho0)) | (go_at_call 12; (with_reducible refine (epicycleref05_Factor.calls k a0 t150 _ A5.out).mono ?_); rintro e w9 ⟨v151, rfl, ho0, hb⟩; have n0_ := Aside0.mk (Kd.R_below (by (with_reducible repeat (first | apply Kd.R_alloc | apply Kd.R_drewN | apply Kd.R_drew)); exact HO149.out) hb); have n1_ := Aside0.mk (Kd.R_lower ho0 (below_size (by repeat (first | (with_reducible first | exact HB.out | apply below_alloc | apply pw_below_drewN | apply below_drew1) | exact HB.out)))); have n2_ := Aside0.mk (below_step (by repeat (first | (with_reducible first | exact HB.out | apply below_alloc | apply pw_below_drewN | apply below_drew1) | exact HB.out)) hb); clear HO149; clear HB; have HO149 := n0_; have HO152 := n1_; have HB := n2_; clear n0_ n1_ n2_; (try clear hb); (try clear hb2); (try clear hk); (try clear hi); (try clear ho0))))
    (try simp only [Act.put, List.setIfInBounds_toArray, List.set_cons_zero, List.set_cons_succ])
    go_cut [26] (fun v26 wc => ∃ (kq : Nat) (x26_5 : Bool), v26 = .bool x26_5 ∧ Aside0 (epicyclelaw05_SieveFactors.j0 kq a0 t147 t150 x26_5 = some true) ∧ Aside0 (kq ≤ k) ∧ Aside0 (Kd.R k33 33 wc w.heap.size (fun _ => True) v148 t147) ∧ Aside0 (Kd.R k34 34 wc w.heap.size (fun _ => True) v151 t150) ∧ Aside0 (Below w.heap.size w wc))
    case first =>
      have H := HC6.out
      clear HC6
      by_cases c10 : (t147.length : Int) = (t150.length : Int)
      · rw [if_pos c10] at H
        have c10b0 : ((t147.length : Int) == (t150.length : Int)) = true := beq_iff_eq.mpr c10
        have c10b1 : ((t147.length : Int) != (t150.length : Int)) = false := bne_eq_false_iff_eq.mpr c10
        have c10b2 : (t147.length == t150.length) = true := by first | simpa using c10 | (simp at c10 ⊢; omega)
        clear c10
        (first | rw [c10b0] | (simp only [i64_w, i32_w]; rw [c10b0]) | skip)
        replace H := Option.bind_eq_some_iff.mp H
        obtain ⟨t153, A110, H⟩ := H
        replace H : ((epicycleref05_Prime.f k a0).bind fun t154 => (epicyclelaw05_SieveFactors.j0 k a0 t147 t150 (t153 != t154))) = some true := H
        have A11 := Aside0.mk A110
        clear A110
        replace H := Option.bind_eq_some_iff.mp H
        obtain ⟨t154, A120, H⟩ := H
        replace H : (epicyclelaw05_SieveFactors.j0 k a0 t147 t150 (t153 != t154)) = some true := H
        have A12 := Aside0.mk A120
        clear A120
        have H' := Aside0.mk H
        clear H
        obtain ⟨Ao13, co13, eo13⟩ := Kd.R_slice HO149.out
        subst eo13
        obtain ⟨Ao14, co14, eo14⟩ := Kd.R_slice HO152.out
        subst eo14
        go_wp2_with (first | (go_at_call 13; (with_reducible refine (sieve_Prime.calls k a0 t153 _ A11.out).mono ?_); rintro e w15 ⟨rfl, hb⟩; have n0_ := Aside0.mk (Kd.R_below (by (with_reducible repeat (first | apply Kd.R_alloc | apply Kd.R_drewN | apply Kd.R_drew)); exact HO149.out) hb); have n1_ := Aside0.mk (Kd.R_below (by (with_reducible repeat (first | apply Kd.R_alloc | apply Kd.R_drewN | apply Kd.R_drew)); exact HO152.out) hb); have n2_ := Aside0.mk (below_step (by repeat (first | (with_reducible first | exact HB.out | apply below_alloc | apply pw_below_drewN | apply below_drew1) | exact HB.out)) hb); clear HO149; clear HO152; clear HB; have HO149 := n0_; have HO152 := n1_; have HB := n2_; clear n0_ n1_ n2_; (try clear hb); (try clear hb2); (try clear hk); (try clear hi)) | (go_at_call 10; (with_reducible refine (epicycleref05_Prime.calls k a0 t154 _ A12.out).mono ?_); rintro e w' ⟨rfl, ⟨nd, rfl⟩⟩; (try first | exact ⟨rfl, _, World.drewN_drewN _ _ _⟩ | exact ⟨rfl, _, Eq.trans (World.drewN_drewN _ _ _) (congrArg (World.drewN _) (Nat.add_assoc _ _ _))⟩)))
        repeat (go_quiet (first | (go_at_call 13; (with_reducible refine (sieve_Prime.calls k a0 t153 _ A11.out).mono ?_); rintro e w15 ⟨rfl, hb⟩; have n0_ := Aside0.mk (Kd.R_below (by (with_reducible repeat (first | apply Kd.R_alloc | apply Kd.R_drewN | apply Kd.R_drew)); exact HO149.out) hb); have n1_ := Aside0.mk (Kd.R_below (by (with_reducible repeat (first | apply Kd.R_alloc | apply Kd.R_drewN | apply Kd.R_drew)); exact HO152.out) hb); have n2_ := Aside0.mk (below_step (by repeat (first | (with_reducible first | exact HB.out | apply below_alloc | apply pw_below_drewN | apply below_drew1) | exact HB.out)) hb); clear HO149; clear HO152; clear HB; have HO149 := n0_; have HO152 := n1_; have HB := n2_; clear n0_ n1_ n2_; (try clear hb); (try clear hb2); (try clear hk); (try clear hi)) | (go_at_call 10; (with_reducible refine (epicycleref05_Prime.calls k a0 t154 _ A12.out).mono ?_); rintro e w' ⟨rfl, ⟨nd, rfl⟩⟩; (try first | exact ⟨rfl, _, World.drewN_drewN _ _ _⟩ | exact ⟨rfl, _, Eq.trans (World.drewN_drewN _ _ _) (congrArg (World.drewN _) (Nat.add_assoc _ _ _))⟩))); try go_wp2_with (first | (go_at_call 13; (with_reducible refine (sieve_Prime.calls k a0 t153 _ A11.out).mono ?_); rintro e w15 ⟨rfl, hb⟩; have n0_ := Aside0.mk (Kd.R_below (by (with_reducible repeat (first | apply Kd.R_alloc | apply Kd.R_drewN | apply Kd.R_drew)); exact HO149.out) hb); have n1_ := Aside0.mk (Kd.R_below (by (with_reducible repeat (first | apply Kd.R_alloc | apply Kd.R_drewN | apply Kd.R_drew)); exact HO152.out) hb); have n2_ := Aside0.mk (below_step (by repeat (first | (with_reducible first | exact HB.out | apply below_alloc | apply pw_below_drewN | apply below_drew1) | exact HB.out)) hb); clear HO149; clear HO152; clear HB; have HO149 := n0_; have HO152 := n1_; have HB := n2_; clear n0_ n1_ n2_; (try clear hb); (try clear hb2); (try clear hk); (try clear hi)) | (go_at_call 10; (with_reducible refine (epicycleref05_Prime.calls k a0 t154 _ A12.out).mono ?_); rintro e w' ⟨rfl, ⟨nd, rfl⟩⟩; (try first | exact ⟨rfl, _, World.drewN_drewN _ _ _⟩ | exact ⟨rfl, _, Eq.trans (World.drewN_drewN _ _ _) (congrArg (World.drewN _) (Nat.add_assoc _ _ _))⟩))))
        go_meet
        case rel => exact ⟨_, ((t153 != t154)), (by first | rfl | (simp; done) | (simp [*]; done)), H', ⟨by first | omega | exact Nat.le_refl _⟩, ⟨by (with_reducible repeat (first | apply Kd.R_alloc | apply Kd.R_drewN | apply Kd.R_drew)); exact HO149.out⟩, ⟨by (with_reducible repeat (first | apply Kd.R_alloc | apply Kd.R_drewN | apply Kd.R_drew)); exact HO152.out⟩, ⟨by repeat (first | (with_reducible first | exact HB.out | apply below_alloc | apply pw_below_drewN | apply below_drew1) | exact HB.out)⟩⟩
      · rw [if_neg c10] at H
        have c10b0 : ((t147.length : Int) == (t150.length : Int)) = false := beq_eq_false_iff_ne.mpr c10
        have c10b1 : ((t147.length : Int) != (t150.length : Int)) = true := bne_iff_ne.mpr c10
        have c10b2 : (t147.length == t150.length) = false := by first | simpa using c10 | (simp at c10 ⊢; omega)
        (first | rw [c10b0] | (simp only [i64_w, i32_w]; rw [c10b0]) | skip)
        have H' := Aside0.mk H
        clear H
        obtain ⟨Ao16, co16, eo16⟩ := Kd.R_slice HO149.out
        subst eo16
        obtain ⟨Ao17, co17, eo17⟩ := Kd.R_slice HO152.out
        subst eo17
        go_wp2
        repeat (go_quiet (fail); try go_wp2)
        go_meet
        case rel => exact ⟨_, (true), (by first | rfl | (simp; done) | (simp [*]; done)), H', ⟨by first | omega | exact Nat.le_refl _⟩, ⟨by (with_reducible repeat (first | apply Kd.R_alloc | apply Kd.R_drewN | apply Kd.R_drew)); exact HO149.out⟩, ⟨by (with_reducible repeat (first | apply Kd.R_alloc | apply Kd.R_drewN | apply Kd.R_drew)); exact HO152.out⟩, ⟨by repeat (first | (with_reducible first | exact HB.out | apply below_alloc | apply pw_below_drewN | apply below_drew1) | exact HB.out)⟩⟩
    case rest =>
      clear HC6
      try clear c1
      try clear p2
      try clear c3
      try clear c4
      try clear c10
      try clear c10b0
      try clear c10b1
      try clear c10b2
      obtain ⟨kq, x26_5, rfl, HA, HJ5, HO_3, HO_4, HB⟩ := hcut
      cases kq with
      | zero => exact absurd HA.out (by simp [epicyclelaw05_SieveFactors.j0])
      | succ kj5 =>
        have H := HA.out
        clear HA
        simp only [epicyclelaw05_SieveFactors.j0] at H
        by_cases c18 : x26_5 = true
        · subst c18
          have H1 : (some false) = some true := by rw [if_pos rfl] at H <;> exact H
          clear H
          have H := H1
          clear H1
          exact absurd H (by simp)
        · replace c18 := Bool.eq_false_iff.mpr c18
          subst c18
          have H1 : (epicyclelaw05_SieveFactors.l0 kj5 a0 t150 1 t147 (t147.length : Int) 0) = some true := by rw [if_neg (show ¬ (false = true) by decide)] at H <;> exact H
          clear H
          have H := H1
          clear H1
          have H' := Aside0.mk H
          clear H
          obtain ⟨Ao19, co19, eo19⟩ := Kd.R_slice HO_3.out
          subst eo19
          go_wp2
          repeat (go_quiet (fail); try go_wp2)
          go_loopg [5, 29] kj5 (fun kq v5 v29 w' => ∃ (x5_2 : Int) (x29_2 : Int), v5 = .int .u64 x5_2 ∧ v29 = .int .i64 x29_2 ∧ Aside0 (epicyclelaw05_SieveFactors.l0 kq a0 t150 x5_2 t147 (t147.length : Int) x29_2 = some true) ∧ Aside0 (kq ≤ kj5) ∧ Aside0 (Kd.R k34 34 w' w.heap.size (fun _ => True) v151 t150) ∧ Aside0 (Kd.R k33 33 w' w.heap.size (fun _ => True) (.slice Ao19 t147.length co19) t147) ∧ Aside0 (Below w.heap.size w w'))
          case atStart => exact ⟨(1), (0), (by first | rfl | (simp; done) | (simp [*]; done)), (by first | rfl | (simp; done) | (simp [*]; done)), H', ⟨Nat.le_refl _⟩, ⟨by (with_reducible repeat (first | apply Kd.R_alloc | apply Kd.R_drewN | apply Kd.R_drew)); exact HO_4.out⟩, ⟨by (with_reducible repeat (first | apply Kd.R_alloc | apply Kd.R_drewN | apply Kd.R_drew)); exact HO_3.out⟩, ⟨by repeat (first | (with_reducible first | exact HB.out | apply below_alloc | apply pw_below_drewN | apply below_drew1) | exact HB.out)⟩⟩
          case round =>
            clear H'
            try clear c1
            try clear p2
            try clear c3
            try clear c4
            try clear c10
            try clear c10b0
            try clear c10b1
            try clear c10b2
            try clear c18
            try clear p2
            obtain ⟨x5_2, x29_2, rfl, rfl, HA, HK2, HO_4, HO_27, HB⟩ := hrel
            cases gk with
            | zero => exact absurd HA.out (by simp [epicyclelaw05_SieveFactors.l0])
            | succ k2 =>
              have H := HA.out
              clear HA
              simp only [epicyclelaw05_SieveFactors.l0] at H
              by_cases c20 : x29_2 < (t147.length : Int)
              · rw [if_pos c20] at H
                have c20b0 : decide (x29_2 < (t147.length : Int)) = true := decide_eq_true c20
                clear c20
                by_cases c21 : 0 ≤ x29_2
                · rw [if_pos c21] at H
                  have c21b0 : decide (0 ≤ x29_2) = true := decide_eq_true c21
                  clear c21
                  by_cases c22 : x29_2 < (t147.length : Int)
                  · rw [if_pos c22] at H
                    have c22b0 : decide (x29_2 < (t147.length : Int)) = true := decide_eq_true c22
                    clear c22
                    have HC23 := Aside0.mk H
                    clear H
                    have p155 : 0 ≤ (x29_2 : Int) := of_decide_eq_true (by first | (with_reducible assumption) | assumption)
                    have q155 : x29_2 < (t147.length : Int) := of_decide_eq_true (by first | (with_reducible assumption) | assumption)
                    obtain ⟨ad155, e155, hx155_0, hx155_1⟩ := at_T33 (Kd.R_reads' HO_27.out).2.2 x29_2 p155 q155
                    cases e155
                    replace p155 := eq_true p155
                    replace q155 := eq_true q155
                    go_upto_region 10 with (first | ((with_reducible refine gate_dst (N := 7) rfl ?_); refine box_event ?hg (N := 7) ?hd (cs := #[.int .u64 0, .int .i64 0]) (t := 33) ?hr ?_; (case hd => rfl); (case hg => rfl); (case hr => first | (go_simp; done) | (go_simp; rfl)); intro gb156 hg w24 hbox hb; have n0_ := Aside0.mk (Kd.R_below (by (with_reducible repeat (first | apply Kd.R_alloc | apply Kd.R_drewN | apply Kd.R_drew)); exact HO_4.out) hb); have n1_ := Aside0.mk (Kd.R_below (Kd.R_elderB (by (with_reducible repeat (first | apply Kd.R_alloc | apply Kd.R_drewN | apply Kd.R_drew)); exact HO_27.out) gb156 (Nat.le_of_eq hg.symm)) hb); have n2_ := Aside0.mk (below_step (by repeat (first | (with_reducible first | exact HB.out | apply below_alloc | apply pw_below_drewN | apply below_drew1) | exact HB.out)) hb); have n3_ := Aside0.mk (hbox); have n4_ := Aside0.mk ((by rw [hg]; exact (below_size (by repeat (first | (with_reducible first | exact HB.out | apply below_alloc | apply pw_below_drewN | apply below_drew1) | exact HB.out))) : w.heap.size ≤ gb156)); have n5_ := Aside0.mk ((by rw [hg]; exact (below_size (by repeat (first | (with_reducible first | exact HB.out | apply below_alloc | apply pw_below_drewN | apply below_drew1) | exact HB.out))) : w.heap.size ≤ gb156)); clear HO_4; clear HO_27; clear HB; have HO_4 := n0_; have HO_27 := n1_; have HB := n2_; have BK156 := n3_; have GW156 := n4_; have GE156 := n5_; clear n0_ n1_ n2_ n3_ n4_ n5_; clear hb hbox hg; have hcz25_0 : w24.cell? ⟨gb156, 0, none⟩ = some (.int .u64 0) := (blk_cell BK156.out 0).trans rfl; have hcz25_1 : w24.cell? ⟨gb156, 1, none⟩ = some (.int .i64 0) := (blk_cell BK156.out 1).trans rfl; have hfz25_0 := blk_frozen BK156.out 0; have hfz25_1 := blk_frozen BK156.out 1))
                    repeat (go_quiet (first | ((with_reducible refine gate_dst (N := 7) rfl ?_); refine box_event ?hg (N := 7) ?hd (cs := #[.int .u64 0, .int .i64 0]) (t := 33) ?hr ?_; (case hd => rfl); (case hg => rfl); (case hr => first | (go_simp; done) | (go_simp; rfl)); intro gb156 hg w24 hbox hb; have n0_ := Aside0.mk (Kd.R_below (by (with_reducible repeat (first | apply Kd.R_alloc | apply Kd.R_drewN | apply Kd.R_drew)); exact HO_4.out) hb); have n1_ := Aside0.mk (Kd.R_below (Kd.R_elderB (by (with_reducible repeat (first | apply Kd.R_alloc | apply Kd.R_drewN | apply Kd.R_drew)); exact HO_27.out) gb156 (Nat.le_of_eq hg.symm)) hb); have n2_ := Aside0.mk (below_step (by repeat (first | (with_reducible first | exact HB.out | apply below_alloc | apply pw_below_drewN | apply below_drew1) | exact HB.out)) hb); have n3_ := Aside0.mk (hbox); have n4_ := Aside0.mk ((by rw [hg]; exact (below_size (by repeat (first | (with_reducible first | exact HB.out | apply below_alloc | apply pw_below_drewN | apply below_drew1) | exact HB.out))) : w.heap.size ≤ gb156)); have n5_ := Aside0.mk ((by rw [hg]; exact (below_size (by repeat (first | (with_reducible first | exact HB.out | apply below_alloc | apply pw_below_drewN | apply below_drew1) | exact HB.out))) : w.heap.size ≤ gb156)); clear HO_4; clear HO_27; clear HB; have HO_4 := n0_; have HO_27 := n1_; have HB := n2_; have BK156 := n3_; have GW156 := n4_; have GE156 := n5_; clear n0_ n1_ n2_ n3_ n4_ n5_; clear hb hbox hg; have hcz25_0 : w24.cell? ⟨gb156, 0, none⟩ = some (.int .u64 0) := (blk_cell BK156.out 0).trans rfl; have hcz25_1 : w24.cell? ⟨gb156, 1, none⟩ = some (.int .i64 0) := (blk_cell BK156.out 1).trans rfl; have hfz25_0 := blk_frozen BK156.out 0; have hfz25_1 := blk_frozen BK156.out 1)); go_upto_region 10 with (first | ((with_reducible refine gate_dst (N := 7) rfl ?_); refine box_event ?hg (N := 7) ?hd (cs := #[.int .u64 0, .int .i64 0]) (t := 33) ?hr ?_; (case hd => rfl); (case hg => rfl); (case hr => first | (go_simp; done) | (go_simp; rfl)); intro gb156 hg w24 hbox hb; have n0_ := Aside0.mk (Kd.R_below (by (with_reducible repeat (first | apply Kd.R_alloc | apply Kd.R_drewN | apply Kd.R_drew)); exact HO_4.out) hb); have n1_ := Aside0.mk (Kd.R_below (Kd.R_elderB (by (with_reducible repeat (first | apply Kd.R_alloc | apply Kd.R_drewN | apply Kd.R_drew)); exact HO_27.out) gb156 (Nat.le_of_eq hg.symm)) hb); have n2_ := Aside0.mk (below_step (by repeat (first | (with_reducible first | exact HB.out | apply below_alloc | apply pw_below_drewN | apply below_drew1) | exact HB.out)) hb); have n3_ := Aside0.mk (hbox); have n4_ := Aside0.mk ((by rw [hg]; exact (below_size (by repeat (first | (with_reducible first | exact HB.out | apply below_alloc | apply pw_below_drewN | apply below_drew1) | exact HB.out))) : w.heap.size ≤ gb156)); have n5_ := Aside0.mk ((by rw [hg]; exact (below_size (by repeat (first | (with_reducible first | exact HB.out | apply below_alloc | apply pw_below_drewN | apply below_drew1) | exact HB.out))) : w.heap.size ≤ gb156)); clear HO_4; clear HO_27; clear HB; have HO_4 := n0_; have HO_27 := n1_; have HB := n2_; have BK156 := n3_; have GW156 := n4_; have GE156 := n5_; clear n0_ n1_ n2_ n3_ n4_ n5_; clear hb hbox hg; have hcz25_0 : w24.cell? ⟨gb156, 0, none⟩ = some (.int .u64 0) := (blk_cell BK156.out 0).trans rfl; have hcz25_1 : w24.cell? ⟨gb156, 1, none⟩ = some (.int .i64 0) := (blk_cell BK156.out 1).trans rfl; have hfz25_0 := blk_frozen BK156.out 0; have hfz25_1 := blk_frozen BK156.out 1)))
                    (try simp only [Act.put, List.setIfInBounds_toArray, List.set_cons_zero, List.set_cons_succ])
                    go_cut [51] (fun v51 wc => ∃ (kq : Nat) (x51_22 : Bool), v51 = .bool x51_22 ∧ Aside0 (epicyclelaw05_SieveFactors.j2 kq a0 t150 x5_2 t147 (t147.length : Int) x29_2 x51_22 ((rd_T33 t147 x29_2).f0) ((rd_T33 t147 x29_2).f1) = some true) ∧ Aside0 (kq ≤ k2) ∧ Aside0 (Kd.R k34 34 wc w.heap.size (fun _ => True) v151 t150) ∧ Aside0 (Kd.R k33 33 wc w.heap.size (fun k_ => k_ ≠ gb156) (.slice (some ad155) t147.length co19) t147) ∧ Aside0 (wc.heap[gb156]? = some (.cells #[.int .u64 ((rd_T33 t147 x29_2).f0), .int .i64 ((rd_T33 t147 x29_2).f1)] 33 (0, 0))) ∧ Aside0 (Below w.heap.size w wc))
                    case first =>
                      have H := HC23.out
                      clear HC23
                      by_cases c26 : x29_2 < (t150.length : Int)
                      · rw [if_pos c26] at H
                        have c26b0 : decide (x29_2 < (t150.length : Int)) = true := decide_eq_true c26
                        clear c26
                        (first | rw [c26b0] | (simp only [i64_w, i32_w]; rw [c26b0]) | skip)
                        by_cases c27 : ((rd_T33 t147 x29_2).f0) = ((rd_T34 t150 x29_2).f0)
                        · rw [if_pos c27] at H
                          have c27b0 : (((rd_T33 t147 x29_2).f0) == ((rd_T34 t150 x29_2).f0)) = true := beq_iff_eq.mpr c27
                          have c27b1 : (((rd_T33 t147 x29_2).f0) != ((rd_T34 t150 x29_2).f0)) = false := bne_eq_false_iff_eq.mpr c27
                          clear c27
                          have H' := Aside0.mk H
                          clear H
                          have hcz28_0 : w24.cell? ⟨gb156, 0, none⟩ = some (.int .u64 0) := (blk_cell BK156.out 0).trans rfl
                          have hcz28_1 : w24.cell? ⟨gb156, 1, none⟩ = some (.int .i64 0) := (blk_cell BK156.out 1).trans rfl
                          have hfz28_0 := blk_frozen BK156.out 0
                          have hfz28_1 := blk_frozen BK156.out 1
                          obtain ⟨Ao29, co29, eo29⟩ := Kd.R_slice HO_4.out
                          subst eo29
                          have p157 : 0 ≤ (x29_2 : Int) := of_decide_eq_true (by first | (with_reducible assumption) | assumption)
                          have q157 : x29_2 < (t150.length : Int) := of_decide_eq_true (by first | (with_reducible assumption) | assumption)
                          obtain ⟨ad157, e157, hx157_0, hx157_1⟩ := at_T34 (Kd.R_reads' HO_4.out).2.2 x29_2 p157 q157
                          cases e157
                          have hn157_0 : ad157.block ≠ gb156 := Kd.own_blk (Kd.R_ne HO_4.out BK156.out (by decide))
                          have hn157_1 : ad157.block ≠ gb156 := Kd.own_blk (Kd.R_ne HO_4.out BK156.out (by decide))
                          replace hx157_0 := (cell_far (p := ⟨gb156, 0, none⟩) (by first | (rw [add_block]; exact hn157_0) | (show (Addr.add _ _).block ≠ _; rw [add_block]; exact hn157_0) | exact hn157_0) (.int .u64 ((rd_T33 t147 x29_2).f0))).trans hx157_0
                          replace hx157_1 := (cell_far (p := ⟨gb156, 0, none⟩) (by first | (rw [add_block]; exact hn157_0) | (show (Addr.add _ _).block ≠ _; rw [add_block]; exact hn157_0) | exact hn157_0) (.int .u64 ((rd_T33 t147 x29_2).f0))).trans hx157_1
                          replace hx157_0 := (cell_far (p := ⟨gb156, 1, none⟩) (by first | (rw [add_block]; exact hn157_1) | (show (Addr.add _ _).block ≠ _; rw [add_block]; exact hn157_1) | exact hn157_1) (.int .i64 ((rd_T33 t147 x29_2).f1))).trans hx157_0
                          replace hx157_1 := (cell_far (p := ⟨gb156, 1, none⟩) (by first | (rw [add_block]; exact hn157_1) | (show (Addr.add _ _).block ≠ _; rw [add_block]; exact hn157_1) | exact hn157_1) (.int .i64 ((rd_T33 t147 x29_2).f1))).trans hx157_1
                          (try have hy157_0 := fun (n_ : Nat) => (show ((((w24.drewN n_).setCell ⟨gb156, 0, none⟩ (.int .u64 ((rd_T33 t147 x29_2).f0))).setCell ⟨gb156, 1, none⟩ (.int .i64 ((rd_T33 t147 x29_2).f1)))).cell? _ = some _ from hx157_0))
                          (try have hy157_1 := fun (n_ : Nat) => (show ((((w24.drewN n_).setCell ⟨gb156, 0, none⟩ (.int .u64 ((rd_T33 t147 x29_2).f0))).setCell ⟨gb156, 1, none⟩ (.int .i64 ((rd_T33 t147 x29_2).f1)))).cell? _ = some _ from hx157_1))
                          clear hn157_0
                          clear hn157_1
                          replace p157 := eq_true p157
                          replace q157 := eq_true q157
                          have p158 : 0 ≤ (x29_2 : Int) := of_decide_eq_true (by first | (with_reducible assumption) | assumption)
                          have q158 : x29_2 < (t150.length : Int) := of_decide_eq_true (by first | (with_reducible assumption) | assumption)
                          obtain ⟨ad158, e158, hx158_0, hx158_1⟩ := at_T34 (Kd.R_reads' HO_4.out).2.2 x29_2 p158 q158
                          obtain rfl : ad157 = ad158 := (by injection e158)
                          have hn158_0 : ad157.block ≠ gb156 := Kd.own_blk (Kd.R_ne HO_4.out BK156.out (by decide))
                          have hn158_1 : ad157.block ≠ gb156 := Kd.own_blk (Kd.R_ne HO_4.out BK156.out (by decide))
                          replace hx158_0 := (cell_far (p := ⟨gb156, 0, none⟩) (by first | (rw [add_block]; exact hn158_0) | (show (Addr.add _ _).block ≠ _; rw [add_block]; exact hn158_0) | exact hn158_0) (.int .u64 ((rd_T33 t147 x29_2).f0))).trans hx158_0
                          replace hx158_1 := (cell_far (p := ⟨gb156, 0, none⟩) (by first | (rw [add_block]; exact hn158_0) | (show (Addr.add _ _).block ≠ _; rw [add_block]; exact hn158_0) | exact hn158_0) (.int .u64 ((rd_T33 t147 x29_2).f0))).trans hx158_1
                          replace hx158_0 := (cell_far (p := ⟨gb156, 1, none⟩) (by first | (rw [add_block]; exact hn158_1) | (show (Addr.add _ _).block ≠ _; rw [add_block]; exact hn158_1) | exact hn158_1) (.int .i64 ((rd_T33 t147 x29_2).f1))).trans hx158_0
                          replace hx158_1 := (cell_far (p := ⟨gb156, 1, none⟩) (by first | (rw [add_block]; exact hn158_1) | (show (Addr.add _ _).block ≠ _; rw [add_block]; exact hn158_1) | exact hn158_1) (.int .i64 ((rd_T33 t147 x29_2).f1))).trans hx158_1
                          (try have hy158_0 := fun (n_ : Nat) => (show ((((w24.drewN n_).setCell ⟨gb156, 0, none⟩ (.int .u64 ((rd_T33 t147 x29_2).f0))).setCell ⟨gb156, 1, none⟩ (.int .i64 ((rd_T33 t147 x29_2).f1)))).cell? _ = some _ from hx158_0))
                          (try have hy158_1 := fun (n_ : Nat) => (show ((((w24.drewN n_).setCell ⟨gb156, 0, none⟩ (.int .u64 ((rd_T33 t147 x29_2).f0))).setCell ⟨gb156, 1, none⟩ (.int .i64 ((rd_T33 t147 x29_2).f1)))).cell? _ = some _ from hx158_1))
                          clear hn158_0
                          clear hn158_1
                          replace p158 := eq_true p158
                          replace q158 := eq_true q158
                          go_wp2
                          repeat (go_quiet (fail); try go_wp2)
                          go_meet
                          case rel => exact ⟨_, ((((rd_T33 t147 x29_2).f1) != ((rd_T34 t150 x29_2).f1))), (by first | rfl | (simp; done) | (simp [*]; done)), H', ⟨by have := HJ5.out; have := HK2.out; first | omega | exact Nat.le_refl _⟩, ⟨by (with_reducible repeat (first | apply Kd.R_alloc | apply Kd.R_drewN | apply Kd.R_drew)); exact Kd.R_mono (Kd.R_far (p := ⟨gb156, 1, none⟩) (Kd.R_far (p := ⟨gb156, 0, none⟩) (Kd.R_types HO_4.out BK156.out (by decide)) (fun _ hk => hk.2) (.int .u64 ((rd_T33 t147 x29_2).f0))) (fun _ hk => hk.2) (.int .i64 ((rd_T33 t147 x29_2).f1))) (fun _ hk => trivial)⟩, ⟨by (with_reducible repeat (first | apply Kd.R_alloc | apply Kd.R_drewN | apply Kd.R_drew)); exact Kd.R_mono (Kd.R_far (p := ⟨gb156, 1, none⟩) (Kd.R_far (p := ⟨gb156, 0, none⟩) (Kd.R_mono HO_27.out (fun k_ hk => (⟨hk, hk.2⟩ : _ ∧ k_ ≠ gb156))) (fun _ hk => hk.2) (.int .u64 ((rd_T33 t147 x29_2).f0))) (fun _ hk => hk.2) (.int .i64 ((rd_T33 t147 x29_2).f1))) (fun _ hk => hk.1.2)⟩, ⟨by (with_reducible repeat (first | refine blk_drewN ?_ _ | refine blk_drew ?_ | refine blk_alloc ?_ _)); refine blk_put (cs := #[.int .u64 ((rd_T33 t147 x29_2).f0), .int .i64 0]) ?_ 1 _ rfl; (with_reducible repeat (first | refine blk_drewN ?_ _ | refine blk_drew ?_ | refine blk_alloc ?_ _)); refine blk_put (cs := #[.int .u64 0, .int .i64 0]) ?_ 0 _ rfl; (with_reducible repeat (first | refine blk_drewN ?_ _ | refine blk_drew ?_ | refine blk_alloc ?_ _)); exact BK156.out⟩, ⟨by repeat (first | (with_reducible first | exact HB.out | apply below_alloc | apply pw_below_drewN | apply below_drew1 | refine below_set ?_ GE156.out) | exact HB.out)⟩⟩
                        · rw [if_neg c27] at H
                          have c27b0 : (((rd_T33 t147 x29_2).f0) == ((rd_T34 t150 x29_2).f0)) = false := beq_eq_false_iff_ne.mpr c27
                          have c27b1 : (((rd_T33 t147 x29_2).f0) != ((rd_T34 t150 x29_2).f0)) = true := bne_iff_ne.mpr c27
                          have H' := Aside0.mk H
                          clear H
                          have hcz30_0 : w24.cell? ⟨gb156, 0, none⟩ = some (.int .u64 0) := (blk_cell BK156.out 0).trans rfl
                          have hcz30_1 : w24.cell? ⟨gb156, 1, none⟩ = some (.int .i64 0) := (blk_cell BK156.out 1).trans rfl
                          have hfz30_0 := blk_frozen BK156.out 0
                          have hfz30_1 := blk_frozen BK156.out 1
                          obtain ⟨Ao31, co31, eo31⟩ := Kd.R_slice HO_4.out
                          subst eo31
                          have p157 : 0 ≤ (x29_2 : Int) := of_decide_eq_true (by first | (with_reducible assumption) | assumption)
                          have q157 : x29_2 < (t150.length : Int) := of_decide_eq_true (by first | (with_reducible assumption) | assumption)
                          obtain ⟨ad157, e157, hx157_0, hx157_1⟩ := at_T34 (Kd.R_reads' HO_4.out).2.2 x29_2 p157 q157
                          cases e157
                          have hn157_0 : ad157.block ≠ gb156 := Kd.own_blk (Kd.R_ne HO_4.out BK156.out (by decide))
                          have hn157_1 : ad157.block ≠ gb156 := Kd.own_blk (Kd.R_ne HO_4.out BK156.out (by decide))
                          replace hx157_0 := (cell_far (p := ⟨gb156, 0, none⟩) (by first | (rw [add_block]; exact hn157_0) | (show (Addr.add _ _).block ≠ _; rw [add_block]; exact hn157_0) | exact hn157_0) (.int .u64 ((rd_T33 t147 x29_2).f0))).trans hx157_0
                          replace hx157_1 := (cell_far (p := ⟨gb156, 0, none⟩) (by first | (rw [add_block]; exact hn157_0) | (show (Addr.add _ _).block ≠ _; rw [add_block]; exact hn157_0) | exact hn157_0) (.int .u64 ((rd_T33 t147 x29_2).f0))).trans hx157_1
                          replace hx157_0 := (cell_far (p := ⟨gb156, 1, none⟩) (by first | (rw [add_block]; exact hn157_1) | (show (Addr.add _ _).block ≠ _; rw [add_block]; exact hn157_1) | exact hn157_1) (.int .i64 ((rd_T33 t147 x29_2).f1))).trans hx157_0
                          replace hx157_1 := (cell_far (p := ⟨gb156, 1, none⟩) (by first | (rw [add_block]; exact hn157_1) | (show (Addr.add _ _).block ≠ _; rw [add_block]; exact hn157_1) | exact hn157_1) (.int .i64 ((rd_T33 t147 x29_2).f1))).trans hx157_1
                          (try have hy157_0 := fun (n_ : Nat) => (show ((((w24.drewN n_).setCell ⟨gb156, 0, none⟩ (.int .u64 ((rd_T33 t147 x29_2).f0))).setCell ⟨gb156, 1, none⟩ (.int .i64 ((rd_T33 t147 x29_2).f1)))).cell? _ = some _ from hx157_0))
                          (try have hy157_1 := fun (n_ : Nat) => (show ((((w24.drewN n_).setCell ⟨gb156, 0, none⟩ (.int .u64 ((rd_T33 t147 x29_2).f0))).setCell ⟨gb156, 1, none⟩ (.int .i64 ((rd_T33 t147 x29_2).f1)))).cell? _ = some _ from hx157_1))
                          clear hn157_0
                          clear hn157_1
                          replace p157 := eq_true p157
                          replace q157 := eq_true q157
                          go_wp2
                          repeat (go_quiet (fail); try go_wp2)
                          go_meet
                          case rel => exact ⟨_, (true), (by first | rfl | (simp; done) | (simp [*]; done)), H', ⟨by have := HJ5.out; have := HK2.out; first | omega | exact Nat.le_refl _⟩, ⟨by (with_reducible repeat (first | apply Kd.R_alloc | apply Kd.R_drewN | apply Kd.R_drew)); exact Kd.R_mono (Kd.R_far (p := ⟨gb156, 1, none⟩) (Kd.R_far (p := ⟨gb156, 0, none⟩) (Kd.R_types HO_4.out BK156.out (by decide)) (fun _ hk => hk.2) (.int .u64 ((rd_T33 t147 x29_2).f0))) (fun _ hk => hk.2) (.int .i64 ((rd_T33 t147 x29_2).f1))) (fun _ hk => trivial)⟩, ⟨by (with_reducible repeat (first | apply Kd.R_alloc | apply Kd.R_drewN | apply Kd.R_drew)); exact Kd.R_mono (Kd.R_far (p := ⟨gb156, 1, none⟩) (Kd.R_far (p := ⟨gb156, 0, none⟩) (Kd.R_mono HO_27.out (fun k_ hk => (⟨hk, hk.2⟩ : _ ∧ k_ ≠ gb156))) (fun _ hk => hk.2) (.int .u64 ((rd_T33 t147 x29_2).f0))) (fun _ hk => hk.2) (.int .i64 ((rd_T33 t147 x29_2).f1))) (fun _ hk => hk.1.2)⟩, ⟨by (with_reducible repeat (first | refine blk_drewN ?_ _ | refine blk_drew ?_ | refine blk_alloc ?_ _)); refine blk_put (cs := #[.int .u64 ((rd_T33 t147 x29_2).f0), .int .i64 0]) ?_ 1 _ rfl; (with_reducible repeat (first | refine blk_drewN ?_ _ | refine blk_drew ?_ | refine blk_alloc ?_ _)); refine blk_put (cs := #[.int .u64 0, .int .i64 0]) ?_ 0 _ rfl; (with_reducible repeat (first | refine blk_drewN ?_ _ | refine blk_drew ?_ | refine blk_alloc ?_ _)); exact BK156.out⟩, ⟨by repeat (first | (with_reducible first | exact HB.out | apply below_alloc | apply pw_below_drewN | apply below_drew1 | refine below_set ?_ GE156.out) | exact HB.out)⟩⟩
                      · rw [if_neg c26] at H
                        exact absurd H (by simp)
                    case rest =>
                      clear HC23
                      try clear c1
                      try clear p1
                      try clear q1
                      try clear hx1
                      try clear c2
                      try clear p2
                      try clear c3
                      try clear c4
                      try clear c10
                      try clear c10b0
                      try clear c10b1
                      try clear c10b2
                      try clear p15
                      try clear q15
                      try clear hx15
                      try clear c18
                      try clear c20
                      try clear c20b0
                      try clear c21
                      try clear c21b0
                      try clear c22
                      try clear c22b0
                      try clear c26
                      try clear c26b0
                      try clear c27
                      try clear c27b0
                      try clear c27b1
                      try clear hcz25_0
                      try clear hcz25_1
                      try clear hcz28_0
                      try clear hcz28_1
                      try clear hcz30_0
                      try clear hcz30_1
                      try clear hfz25_0
                      try clear hfz25_1
                      try clear hfz28_0
                      try clear hfz28_1
                      try clear hfz30_0
                      try clear hfz30_1
                      try clear hx155_0
                      try clear hx155_1
                      try clear hx157_0
                      try clear hx157_1
                      try clear hx158_0
                      try clear hx158_1
                      try clear p155
                      try clear p157
                      try clear p158
                      try clear p2
                      try clear q155
                      try clear q157
                      try clear q158
                      obtain ⟨kq, x51_22, rfl, HA, HJ22, HO_4, HO_27, BK156, HB⟩ := hcut
                      cases kq with
                      | zero => exact absurd HA.out (by simp [epicyclelaw05_SieveFactors.j2])
                      | succ kj22 =>
                        have H := HA.out
                        clear HA
                        simp only [epicyclelaw05_SieveFactors.j2] at H
                        by_cases c32 : x51_22 = true
                        · subst c32
                          have H1 : (some false) = some true := by rw [if_pos rfl] at H <;> exact H
                          clear H
                          have H := H1
                          clear H1
                          exact absurd H (by simp)
                        · replace c32 := Bool.eq_false_iff.mpr c32
                          subst c32
                          have H1 : (epicyclelaw05_SieveFactors.l1 kj22 a0 t150 x5_2 0 t147 (t147.length : Int) x29_2 ((rd_T33 t147 x29_2).f0) ((rd_T33 t147 x29_2).f1)) = some true := by rw [if_neg (show ¬ (false = true) by decide)] at H <;> exact H
                          clear H
                          have H := H1
                          clear H1
                          have H' := Aside0.mk H
                          clear H
                          go_wp2
                          repeat (go_quiet (fail); try go_wp2)
                          go_loopg [5, 8] kj22 (fun kq v5 v8 w' => ∃ (x5_4 : Int) (x8_4 : Int), v5 = .int .u64 x5_4 ∧ v8 = .int .i64 x8_4 ∧ Aside0 (epicyclelaw05_SieveFactors.l1 kq a0 t150 x5_4 x8_4 t147 (t147.length : Int) x29_2 ((rd_T33 t147 x29_2).f0) ((rd_T33 t147 x29_2).f1) = some true) ∧ Aside0 (kq ≤ kj22) ∧ Aside0 (Kd.R k34 34 w' w.heap.size (fun _ => True) v151 t150) ∧ Aside0 (Kd.R k33 33 w' w.heap.size (fun k_ => k_ ≠ gb156) (.slice (some ad155) t147.length co19) t147) ∧ Aside0 (w'.heap[gb156]? = some (.cells #[.int .u64 ((rd_T33 t147 x29_2).f0), .int .i64 ((rd_T33 t147 x29_2).f1)] 33 (0, 0))) ∧ Aside0 (Below w.heap.size w w'))
                          case atStart => exact ⟨(x5_2), (0), (by first | rfl | (simp; done) | (simp [*]; done)), (by first | rfl | (simp; done) | (simp [*]; done)), H', ⟨Nat.le_refl _⟩, ⟨by (with_reducible repeat (first | apply Kd.R_alloc | apply Kd.R_drewN | apply Kd.R_drew)); exact HO_4.out⟩, ⟨by (with_reducible repeat (first | apply Kd.R_alloc | apply Kd.R_drewN | apply Kd.R_drew)); exact HO_27.out⟩, ⟨by (with_reducible repeat (first | refine blk_drewN ?_ _ | refine blk_drew ?_ | refine blk_alloc ?_ _)); exact BK156.out⟩, ⟨by repeat (first | (with_reducible first | exact HB.out | apply below_alloc | apply pw_below_drewN | apply below_drew1 | refine below_set ?_ GE156.out) | exact HB.out)⟩⟩
                          case round =>
                            clear H'
                            try clear c1
                            try clear p1
                            try clear q1
                            try clear hx1
                            try clear c2
                            try clear p2
                            try clear c3
                            try clear c4
                            try clear c10
                            try clear c10b0
                            try clear c10b1
                            try clear c10b2
                            try clear p15
                            try clear q15
                            try clear hx15
                            try clear c18
                            try clear c20
                            try clear c20b0
                            try clear c21
                            try clear c21b0
                            try clear c22
                            try clear c22b0
                            try clear c26
                            try clear c26b0
                            try clear c27
                            try clear c27b0
                            try clear c27b1
                            try clear c32
                            try clear hcz25_0
                            try clear hcz25_1
                            try clear hcz28_0
                            try clear hcz28_1
                            try clear hcz30_0
                            try clear hcz30_1
                            try clear hfz25_0
                            try clear hfz25_1
                            try clear hfz28_0
                            try clear hfz28_1
                            try clear hfz30_0
                            try clear hfz30_1
                            try clear hx155_0
                            try clear hx155_1
                            try clear hx157_0
                            try clear hx157_1
                            try clear hx158_0
                            try clear hx158_1
                            try clear p1
                            try clear p15
                            try clear p155
                            try clear p157
                            try clear p158
                            try clear p2
                            try clear q1
                            try clear q15
                            try clear q155
                            try clear q157
                            try clear q158
                            obtain ⟨x5_4, x8_4, rfl, rfl, HA, HK4, HO_4, HO_27, BK156, HB⟩ := hrel
                            cases gk with
                            | zero => exact absurd HA.out (by simp [epicyclelaw05_SieveFactors.l1])
                            | succ k4 =>
                              have H := HA.out
                              clear HA
                              simp only [epicyclelaw05_SieveFactors.l1] at H
                              by_cases c33 : x8_4 < ((rd_T33 t147 x29_2).f1)
                              · rw [if_pos c33] at H
                                have c33b0 : decide (x8_4 < ((rd_T33 t147 x29_2).f1)) = true := decide_eq_true c33
                                clear c33
                                have H' := Aside0.mk H
                                clear H
                                have hcz34_0 : wr.cell? ⟨gb156, 0, none⟩ = some (.int .u64 ((rd_T33 t147 x29_2).f0)) := (blk_cell BK156.out 0).trans rfl
                                have hcz34_1 : wr.cell? ⟨gb156, 1, none⟩ = some (.int .i64 ((rd_T33 t147 x29_2).f1)) := (blk_cell BK156.out 1).trans rfl
                                have hfz34_0 := blk_frozen BK156.out 0
                                have hfz34_1 := blk_frozen BK156.out 1
                                go_wp2
                                repeat (go_quiet (fail); try go_wp2)
                                go_roundg k4
                                case measure => have := HJ5.out; have := HK2.out; have := HJ22.out; have := HK4.out; omega
                                case rel => exact ⟨(IntKind.u64.wrap (x5_4 * ((rd_T33 t147 x29_2).f0))), (wrap64 (x8_4 + 1)), (by first | rfl | (simp; done) | (simp [*]; done)), (by first | rfl | (simp; done) | (simp [*]; done)), H', ⟨by have := HJ5.out; have := HK2.out; have := HJ22.out; have := HK4.out; omega⟩, ⟨by (with_reducible repeat (first | apply Kd.R_alloc | apply Kd.R_drewN | apply Kd.R_drew)); exact HO_4.out⟩, ⟨by (with_reducible repeat (first | apply Kd.R_alloc | apply Kd.R_drewN | apply Kd.R_drew)); exact HO_27.out⟩, ⟨by (with_reducible repeat (first | refine blk_drewN ?_ _ | refine blk_drew ?_ | refine blk_alloc ?_ _)); exact BK156.out⟩, ⟨by repeat (first | (with_reducible first | exact HB.out | apply below_alloc | apply pw_below_drewN | apply below_drew1 | refine below_set ?_ GE156.out) | exact HB.out)⟩⟩
                              · rw [if_neg c33] at H
                                have c33b0 : decide (x8_4 < ((rd_T33 t147 x29_2).f1)) = false := decide_eq_false c33
                                clear c33
                                have H' := Aside0.mk H
                                clear H
                                have hcz35_0 : wr.cell? ⟨gb156, 0, none⟩ = some (.int .u64 ((rd_T33 t147 x29_2).f0)) := (blk_cell BK156.out 0).trans rfl
                                have hcz35_1 : wr.cell? ⟨gb156, 1, none⟩ = some (.int .i64 ((rd_T33 t147 x29_2).f1)) := (blk_cell BK156.out 1).trans rfl
                                have hfz35_0 := blk_frozen BK156.out 0
                                have hfz35_1 := blk_frozen BK156.out 1
                                go_wp2
                                repeat (go_quiet (fail); try go_wp2)
                                go_roundg k4
                                case measure => have := HJ5.out; have := HK2.out; have := HJ22.out; have := HK4.out; omega
                                case rel => exact ⟨(x5_4), (wrap64 (x29_2 + 1)), (by first | rfl | (simp; done) | (simp [*]; done)), (by first | rfl | (simp; done) | (simp [*]; done)), H', ⟨by have := HJ5.out; have := HK2.out; have := HJ22.out; have := HK4.out; omega⟩, ⟨by (with_reducible repeat (first | apply Kd.R_alloc | apply Kd.R_drewN | apply Kd.R_drew)); exact HO_4.out⟩, ⟨by (with_reducible repeat (first | apply Kd.R_alloc | apply Kd.R_drewN | apply Kd.R_drew)); exact Kd.R_mono HO_27.out (fun _ hk => trivial)⟩, ⟨by repeat (first | (with_reducible first | exact HB.out | apply below_alloc | apply pw_below_drewN | apply below_drew1 | refine below_set ?_ GE156.out) | exact HB.out)⟩⟩
                  · rw [if_neg c22] at H
                    exact absurd H (by simp)
                · rw [if_neg c21] at H
                  exact absurd H (by simp)
              · rw [if_neg c20] at H
                have c20b0 : decide (x29_2 < (t147.length : Int)) = false := decide_eq_false c20
                clear c20
                by_cases c36 : x5_2 = a0
                · rw [if_pos c36] at H
                  have c36b0 : (x5_2 == a0) = true := beq_iff_eq.mpr c36
                  have c36b1 : (x5_2 != a0) = false := bne_eq_false_iff_eq.mpr c36
                  clear c36
                  clear H
                  go_wp2
                  repeat (go_quiet (fail); try go_wp2)
                  go_ret
                  exact ⟨by first | rfl | (simp [errW_none, errW_some] <;> rfl) | (simp [*, errW_none, errW_some] <;> rfl), by repeat (first | (with_reducible first | exact HB.out | apply below_alloc | apply pw_below_drewN | apply below_drew1) | exact HB.out)⟩
                · rw [if_neg c36] at H
                  have c36b0 : (x5_2 == a0) = false := beq_eq_false_iff_ne.mpr c36
                  have c36b1 : (x5_2 != a0) = true := bne_iff_ne.mpr c36
                  by_cases c37 : a0 < 2
                  · rw [if_pos c37] at H
                    have c37b0 : decide (a0 < 2) = true := decide_eq_true c37
                    clear c37
                    clear H
                    go_wp2
                    repeat (go_quiet (fail); try go_wp2)
                    go_ret
                    exact ⟨by first | rfl | (simp [errW_none, errW_some] <;> rfl) | (simp [*, errW_none, errW_some] <;> rfl), by repeat (first | (with_reducible first | exact HB.out | apply below_alloc | apply pw_below_drewN | apply below_drew1) | exact HB.out)⟩
                  · rw [if_neg c37] at H
                    have c37b0 : decide (a0 < 2) = false := decide_eq_false c37
                    clear c37
                    have hR_ := Option.some.inj H
                    go_wp2
                    repeat (go_quiet (fail); try go_wp2)
                    go_ret
                    exact ⟨by first | rfl | (simp [errW_none, errW_some] <;> rfl) | (simp [*, errW_none, errW_some] <;> rfl), by repeat (first | (with_reducible first | exact HB.out | apply below_alloc | apply pw_below_drewN | apply below_drew1) | exact HB.out)⟩
  · replace c3 := Bool.eq_false_iff.mpr c3
    subst c3
    have H1 : (some false) = some true := by rw [if_neg (show ¬ (false = true) by decide)] at H <;> exact H
    clear H
    have H := H1
    clear H1
    exact absurd H (by simp)
def epicyclelaw05_SieveFactors.Pure : Prop := ∀ (a0 : Int), (Lit.int .u64 a0).wf = true → ∃ k, epicyclelaw05_SieveFactors.f k a0 = some true
theorem epicyclelaw05_SieveFactors.walk (P : epicyclelaw05_SieveFactors.Pure) (a0 : Int) (w : World) (w0 : (Lit.int .u64 a0).wf = true) :
    Calls Try.prog 4 #[.int .u64 a0] w fun e w' => e = .returned (.bool true) ∧ Below w.heap.size w w' := by
  obtain ⟨k, h⟩ := P a0 w0
  refine (epicyclelaw05_SieveFactors.calls k a0 w h).mono ?_
  rintro e w' ⟨rfl, hd⟩
  exact ⟨rfl, hd⟩
def epicycleref05_Odd.f (k : Nat) (a0 : Int) : Option (Bool) := if a0 > 2 then (if a0 ≤ 65536 then ((epicycleref05_Prime.f k a0).bind fun t159 => (some t159)) else (some false)) else (some false)
set_option maxHeartbeats 8000000 in
set_option maxRecDepth 100000 in
theorem epicycleref05_Odd.calls (k : Nat) (a0 : Int) (r : Bool) (w : World) (h : epicycleref05_Odd.f k a0 = some r) :
    Calls Try.prog 18 #[.int .u64 a0] w fun e w' => e = .returned (.bool r) ∧ Drawn0 w w' := by
  have H : (if a0 > 2 then (if a0 ≤ 65536 then ((epicycleref05_Prime.f k a0).bind fun t159 => (some t159)) else (some false)) else (some false)) = some r := h
  clear h
  by_cases c2 : a0 > 2
  · rw [if_pos c2] at H
    have c2b0 : decide (2 < a0) = true := decide_eq_true c2
    clear c2
    by_cases c3 : a0 ≤ 65536
    · rw [if_pos c3] at H
      have c3b0 : decide (a0 ≤ 65536) = true := decide_eq_true c3
      clear c3
      replace H := Option.bind_eq_some_iff.mp H
      obtain ⟨t159, A40, H⟩ := H
      replace H : (some t159) = some r := H
      have A4 := Aside0.mk A40
      clear A40
      obtain rfl := Option.some.inj H
      go_enter Try.func18, Try.ntmps18
      go_wp2_with (first | (go_at_call 10; (with_reducible refine (epicycleref05_Prime.calls k a0 t159 _ A4.out).mono ?_); rintro e w' ⟨rfl, ⟨nd, rfl⟩⟩))
      go_ret
      exact ⟨by first | rfl | (simp; done) | (simp [*]; done), by repeat (first | exact Drawn0.refl _ | apply Drawn0.step)⟩
    · rw [if_neg c3] at H
      have c3b0 : decide (a0 ≤ 65536) = false := decide_eq_false c3
      clear c3
      obtain rfl := Option.some.inj H
      go_enter Try.func18, Try.ntmps18
      go_wp2
      go_ret
      exact ⟨by first | rfl | (simp; done) | (simp [*]; done), by repeat (first | exact Drawn0.refl _ | apply Drawn0.step)⟩
  · rw [if_neg c2] at H
    have c2b0 : decide (2 < a0) = false := decide_eq_false c2
    clear c2
    obtain rfl := Option.some.inj H
    go_enter Try.func18, Try.ntmps18
    go_wp2
    go_ret
    exact ⟨by first | rfl | (simp; done) | (simp [*]; done), by repeat (first | exact Drawn0.refl _ | apply Drawn0.step)⟩
def epicycleref05_Order.l0 : Nat → Int → Int → Int → Int → Option (Int)
  | 0, _, _, _, _ => none
  | k + 1, x0, x1, x5, x6 => if x6 = 1 then (some x5) else (if x1 = 0 then (none) else (epicycleref05_Order.l0 k x0 x1 (IntKind.u64.wrap (x5 + 1)) (Int.tmod (IntKind.u64.wrap (x6 * x0)) x1)))
def epicycleref05_Order.f (k : Nat) (a0 : Int) (a1 : Int) : Option (Int) := if a1 = 0 then (none) else (epicycleref05_Order.l0 k a0 a1 1 (Int.tmod a0 a1))
set_option maxHeartbeats 8000000 in
set_option maxRecDepth 100000 in
theorem epicycleref05_Order.calls (k : Nat) (a0 : Int) (a1 : Int) (r : Int) (w : World) (h : epicycleref05_Order.f k a0 a1 = some r) :
    Calls Try.prog 26 #[.int .u64 a0, .int .u64 a1] w fun e w' => e = .returned (.int .u64 r) ∧ Drawn0 w w' := by
  have H : (if a1 = 0 then (none) else (epicycleref05_Order.l0 k a0 a1 1 (Int.tmod a0 a1))) = some r := h
  clear h
  by_cases c3 : a1 = 0
  · rw [if_pos c3] at H
    exact absurd H (by simp)
  · rw [if_neg c3] at H
    have c3b0 : (a1 == 0) = false := beq_eq_false_iff_ne.mpr c3
    have c3b1 : (a1 != 0) = true := bne_iff_ne.mpr c3
    have H' := Aside0.mk H
    clear H
    go_enter Try.func26, Try.ntmps26
    go_wp2
    go_loopg [5, 6] k (fun kq v5 v6 w' => ∃ (x5_1 : Int) (x6_1 : Int), v5 = .int .u64 x5_1 ∧ v6 = .int .u64 x6_1 ∧ Aside0 (epicycleref05_Order.l0 kq a0 a1 x5_1 x6_1 = some r) ∧ Aside0 (kq ≤ k) ∧ Drawn0 w w')
    case atStart => exact ⟨(1), (Int.tmod a0 a1), (by first | rfl | (simp; done) | (simp [*]; done)), (by first | rfl | (simp; done) | (simp [*]; done)), H', ⟨Nat.le_refl _⟩, by repeat (first | exact Drawn0.refl _ | apply Drawn0.step)⟩
    case round =>
      clear H'
      try clear c2
      try clear p2
      try clear c3
      try clear c3b0
      try clear c3b1
      obtain ⟨x5_1, x6_1, rfl, rfl, HA, HK1, ⟨m1, rfl⟩⟩ := hrel
      cases gk with
      | zero => exact absurd HA.out (by simp [epicycleref05_Order.l0])
      | succ k1 =>
        have H := HA.out
        clear HA
        simp only [epicycleref05_Order.l0] at H
        by_cases c4 : x6_1 = 1
        · rw [if_pos c4] at H
          have c4b0 : (x6_1 == 1) = true := beq_iff_eq.mpr c4
          have c4b1 : (x6_1 != 1) = false := bne_eq_false_iff_eq.mpr c4
          clear c4
          obtain rfl := Option.some.inj H
          go_wp2
          go_ret
          exact ⟨by first | rfl | (simp; done) | (simp [*]; done), by repeat (first | exact Drawn0.refl _ | apply Drawn0.step)⟩
        · rw [if_neg c4] at H
          have c4b0 : (x6_1 == 1) = false := beq_eq_false_iff_ne.mpr c4
          have c4b1 : (x6_1 != 1) = true := bne_iff_ne.mpr c4
          by_cases c5 : a1 = 0
          · rw [if_pos c5] at H
            exact absurd H (by simp)
          · rw [if_neg c5] at H
            have c5b0 : (a1 == 0) = false := beq_eq_false_iff_ne.mpr c5
            have c5b1 : (a1 != 0) = true := bne_iff_ne.mpr c5
            have H' := Aside0.mk H
            clear H
            go_wp2
            go_roundg k1
            case measure => have := HK1.out; omega
            case rel => exact ⟨(IntKind.u64.wrap (x5_1 + 1)), (Int.tmod (IntKind.u64.wrap (x6_1 * a0)) a1), (by first | rfl | (simp; done) | (simp [*]; done)), (by first | rfl | (simp; done) | (simp [*]; done)), H', ⟨by have := HK1.out; omega⟩, by repeat (first | exact Drawn0.refl _ | apply Drawn0.step)⟩
end Go.Proofs.Ytcphlhphdpjnfaa.XS
end
section
namespace Go.Proofs.Ytcphlhphdpjnfaa.XS
open Go Go.RowKit Go.Proofs.YtcphlhphdpjnfaaW.PrintWords Go.Proofs.YtcphlhphdpjnfaaW.PrintLast Go.Proofs.YtcphlhphdpjnfaaW.PrintMore Go.Proofs.Ytcphlhphdpjnfaa.Given Go.Proofs.Ytcphlhphdpjnfaa.M Go.Proofs.Ytcphlhphdpjnfaa.Num
def m33 (l : List (Nat × Nat)) : List S33 := l.map fun x => ⟨(x.1 : Int), (x.2 : Int)⟩
def m34 (l : List (Nat × Nat)) : List S34 := l.map fun x => ⟨(x.1 : Int), (x.2 : Int)⟩
theorem fac_l1_end {acc : List S33} {d : Int} {R : List S33} (hd : 2 ≤ d) (hd2 : d < 4294967300) (hacc : acc.length < 8796093022208) {n c : Int} (hn : 0 ≤ n) (hm : ¬ n % d = 0)
    (E : Ev (fun k => sieve_Factor.l0 k n (if c > 0 then acc ++ [⟨d, c⟩] else acc) (d + 1)) R) : Ev (fun k => sieve_Factor.l1 k n acc d c) R := by
  have h0 : ¬ d = 0 := by omega
  have h1 : ¬ Int.tmod n d = 0 := by rw [tmod_pos hn]; exact hm
  have hw : IntKind.u64.wrap (d + 1) = d + 1 := wu64_id _ (by omega) (by omega)
  by_cases c1 : c > 0
  · rw [if_pos c1] at E
    refine Ev.step (fun k => ?_) E
    simp only [sieve_Factor.l1]
    rw [if_neg h0, if_neg h1, if_pos c1, if_pos hacc, hw]
  · rw [if_neg c1] at E
    refine Ev.step (fun k => ?_) E
    simp only [sieve_Factor.l1]
    rw [if_neg h0, if_neg h1, if_neg c1, hw]
theorem fac_l1_step {acc : List S33} {d : Int} {R : List S33} (hd : 2 ≤ d) {n q c : Int} (hq : 0 ≤ q) (hq2 : q < 4294967300) (hn : n = d * q) (hn0 : 0 ≤ n) (hc0 : 0 ≤ c) (hc : c < 8589934600)
    (E : Ev (fun k => sieve_Factor.l1 k q acc d (c + 1)) R) : Ev (fun k => sieve_Factor.l1 k n acc d c) R := by
  have h0 : ¬ d = 0 := by omega
  have h1 : Int.tmod n d = 0 := by rw [tmod_pos hn0, hn, Int.mul_emod_right]
  have h2 : IntKind.u64.wrap (Int.tdiv n d) = q := by rw [tdiv_pos hn0, hn, Int.mul_ediv_cancel_left _ h0, wu64_id _ hq (by omega)]
  have hw : wrap64 (c + 1) = c + 1 := w64_id _ (by omega) (by omega)
  refine Ev.step (fun k => ?_) E
  simp only [sieve_Factor.l1]
  rw [if_neg h0, if_pos h1, h2, hw]
theorem fac_l1 {acc : List S33} {d m : Nat} {R : List S33} (hd : 2 ≤ d) (hd2 : d < 4294967300) (hacc : acc.length < 8796093022208) (hm : ¬ d ∣ m) (hm0 : 0 < m) (e : Nat) : ∀ (c n : Nat), c + e < 8589934600 → n < 4294967300 → n = d ^ e * m →
    Ev (fun k => sieve_Factor.l0 k (m : Int) (if ((c + e : Nat) : Int) > 0 then acc ++ [⟨(d : Int), ((c + e : Nat) : Int)⟩] else acc) ((d : Int) + 1)) R → Ev (fun k => sieve_Factor.l1 k (n : Int) acc (d : Int) (c : Int)) R := by
  induction e with
  | zero =>
    intro c n _ _ hn E
    rw [Nat.pow_zero, Nat.one_mul] at hn
    subst hn
    rw [Nat.add_zero] at E
    refine fac_l1_end (by omega) (by omega) hacc (by omega) (fun h => hm ?_) E
    rw [← Int.natCast_emod] at h
    exact Nat.dvd_of_mod_eq_zero (by omega)
  | succ e ih =>
    intro c n hc hn hp E
    have hmul : n = d * (d ^ e * m) := by rw [hp, Nat.pow_succ, Nat.mul_comm (d ^ e) d, Nat.mul_assoc]
    have hle : d ^ e * m ≤ n := by rw [hmul]; exact Nat.le_mul_of_pos_left _ (by omega)
    have IH := ih (c + 1) (d ^ e * m) (by omega) (Nat.lt_of_le_of_lt hle hn) rfl (by rw [show c + 1 + e = c + (e + 1) by omega]; exact E)
    generalize d ^ e * m = q at *
    refine fac_l1_step (q := (q : Int)) (by omega) (by omega) (by omega) (by rw [hmul]; simp) (by omega) (by omega) (by omega) (by rw [show (c : Int) + 1 = ((c + 1 : Nat) : Int) by omega]; exact IH)
theorem rfac_l1_end {acc : List S34} {d : Int} {R : List S34} (hd : 2 ≤ d) (hd2 : d < 4294967300) (hacc : acc.length < 8796093022208) {n c : Int} (hn : 0 ≤ n) (hm : ¬ n % d = 0)
    (E : Ev (fun k => epicycleref05_Factor.l0 k n (if c > 0 then acc ++ [⟨d, c⟩] else acc) (d + 1)) R) : Ev (fun k => epicycleref05_Factor.l1 k n acc d c) R := by
  have h0 : ¬ d = 0 := by omega
  have h1 : ¬ Int.tmod n d = 0 := by rw [tmod_pos hn]; exact hm
  have hw : IntKind.u64.wrap (d + 1) = d + 1 := wu64_id _ (by omega) (by omega)
  by_cases c1 : c > 0
  · rw [if_pos c1] at E
    refine Ev.step (fun k => ?_) E
    simp only [epicycleref05_Factor.l1]
    rw [if_neg h0, if_neg h1, if_pos c1, if_pos hacc, hw]
  · rw [if_neg c1] at E
    refine Ev.step (fun k => ?_) E
    simp only [epicycleref05_Factor.l1]
    rw [if_neg h0, if_neg h1, if_neg c1, hw]
theorem rfac_l1_step {acc : List S34} {d : Int} {R : List S34} (hd : 2 ≤ d) {n q c : Int} (hq : 0 ≤ q) (hq2 : q < 4294967300) (hn : n = d * q) (hn0 : 0 ≤ n) (hc0 : 0 ≤ c) (hc : c < 8589934600)
    (E : Ev (fun k => epicycleref05_Factor.l1 k q acc d (c + 1)) R) : Ev (fun k => epicycleref05_Factor.l1 k n acc d c) R := by
  have h0 : ¬ d = 0 := by omega
  have h1 : Int.tmod n d = 0 := by rw [tmod_pos hn0, hn, Int.mul_emod_right]
  have h2 : IntKind.u64.wrap (Int.tdiv n d) = q := by rw [tdiv_pos hn0, hn, Int.mul_ediv_cancel_left _ h0, wu64_id _ hq (by omega)]
  have hw : wrap64 (c + 1) = c + 1 := w64_id _ (by omega) (by omega)
  refine Ev.step (fun k => ?_) E
  simp only [epicycleref05_Factor.l1]
  rw [if_neg h0, if_pos h1, h2, hw]
theorem rfac_l1 {acc : List S34} {d m : Nat} {R : List S34} (hd : 2 ≤ d) (hd2 : d < 4294967300) (hacc : acc.length < 8796093022208) (hm : ¬ d ∣ m) (hm0 : 0 < m) (e : Nat) : ∀ (c n : Nat), c + e < 8589934600 → n < 4294967300 → n = d ^ e * m →
    Ev (fun k => epicycleref05_Factor.l0 k (m : Int) (if ((c + e : Nat) : Int) > 0 then acc ++ [⟨(d : Int), ((c + e : Nat) : Int)⟩] else acc) ((d : Int) + 1)) R → Ev (fun k => epicycleref05_Factor.l1 k (n : Int) acc (d : Int) (c : Int)) R := by
  induction e with
  | zero =>
    intro c n _ _ hn E
    rw [Nat.pow_zero, Nat.one_mul] at hn
    subst hn
    rw [Nat.add_zero] at E
    refine rfac_l1_end (by omega) (by omega) hacc (by omega) (fun h => hm ?_) E
    rw [← Int.natCast_emod] at h
    exact Nat.dvd_of_mod_eq_zero (by omega)
  | succ e ih =>
    intro c n hc hn hp E
    have hmul : n = d * (d ^ e * m) := by rw [hp, Nat.pow_succ, Nat.mul_comm (d ^ e) d, Nat.mul_assoc]
    have hle : d ^ e * m ≤ n := by rw [hmul]; exact Nat.le_mul_of_pos_left _ (by omega)
    have IH := ih (c + 1) (d ^ e * m) (by omega) (Nat.lt_of_le_of_lt hle hn) rfl (by rw [show c + 1 + e = c + (e + 1) by omega]; exact E)
    generalize d ^ e * m = q at *
    refine rfac_l1_step (q := (q : Int)) (by omega) (by omega) (by omega) (by rw [hmul]; simp) (by omega) (by omega) (by omega) (by rw [show (c : Int) + 1 = ((c + 1 : Nat) : Int) by omega]; exact IH)
end Go.Proofs.Ytcphlhphdpjnfaa.XS
end
section
namespace Go.Proofs.Ytcphlhphdpjnfaa.XS
open Go Go.RowKit Go.Proofs.YtcphlhphdpjnfaaW.PrintWords Go.Proofs.YtcphlhphdpjnfaaW.PrintLast Go.Proofs.YtcphlhphdpjnfaaW.PrintMore Go.Proofs.Ytcphlhphdpjnfaa.Given Go.Proofs.Ytcphlhphdpjnfaa.M Go.Proofs.Ytcphlhphdpjnfaa.Num
def Facs (d n : Nat) (l : List (Nat × Nat)) : Prop := (∀ x ∈ l, Prime x.1 ∧ d ≤ x.1 ∧ 1 ≤ x.2) ∧ l.Pairwise (fun x y => x.1 < y.1) ∧ prod l = n
theorem prime_of_trials {n d : Nat} (hn : 2 ≤ n) (hd : n < d * d) (h : ∀ c, 2 ≤ c → c < d → ¬ c ∣ n) : Prime n := by
  refine ⟨hn, fun c hc => Classical.byContradiction fun ne => ?_⟩
  obtain ⟨e, he⟩ := hc
  have c0 : c ≠ 0 := by rintro rfl; simp at he; omega
  have e0 : e ≠ 0 := by rintro rfl; simp at he; omega
  have c1 : c ≠ 1 := fun x => ne (.inl x)
  have e1 : e ≠ 1 := by rintro rfl; exact ne (.inr (by omega))
  have hcd : ¬ c < d := fun x => h c (by omega) x ⟨e, he⟩
  have hed : ¬ e < d := fun x => h e (by omega) x ⟨c, by rw [he, Nat.mul_comm]⟩
  have := Nat.mul_le_mul (Nat.le_of_not_lt hcd) (Nat.le_of_not_lt hed)
  omega
theorem prime_of_least {n d : Nat} (hd : 2 ≤ d) (hdn : d ∣ n) (h : ∀ c, 2 ≤ c → c < d → ¬ c ∣ n) : Prime d := by
  refine ⟨hd, fun c hc => Classical.byContradiction fun ne => ?_⟩
  have hle := Nat.le_of_dvd (by omega) hc
  have c0 : c ≠ 0 := by rintro rfl; have := Nat.eq_zero_of_zero_dvd hc; omega
  exact h c (by omega) (by omega) (Nat.dvd_trans hc hdn)
theorem fac_done {acc : List S33} {d : Int} : Ev (fun k => sieve_Factor.l0 k 1 acc d) acc := by
  refine Ev.step (f := fun _ => some acc) (fun k => ?_) (Ev.now _)
  simp only [sieve_Factor.l0]
  rw [if_neg (by omega)]
theorem rfac_done {acc : List S34} {d : Int} (hd : 2 ≤ d) (h2 : d ≤ 65537) : Ev (fun k => epicycleref05_Factor.l0 k 1 acc d) acc := by
  refine Ev.step (f := fun _ => some acc) (fun k => ?_) (Ev.now _)
  simp only [epicycleref05_Factor.l0]
  have h1 : d * d ≤ 65537 * 65537 := Int.mul_le_mul h2 h2 (by omega) (by omega)
  have h3 : 2 * 2 ≤ d * d := Int.mul_le_mul hd hd (by omega) (by omega)
  generalize d * d = x at *
  rw [wu64_id _ (by omega) (by omega), if_neg (by omega), if_neg (by omega)]
theorem fac_go {acc : List S33} {n d : Nat} {R : List S33} (hn : 2 ≤ n) (h2 : d ≤ 65537)
    (E : Ev (fun k => sieve_Factor.l1 k (n : Int) acc ((if n < d * d then n else d : Nat) : Int) 0) R) : Ev (fun k => sieve_Factor.l0 k (n : Int) acc (d : Int)) R := by
  have h1 : d * d ≤ 65537 * 65537 := Nat.mul_le_mul h2 h2
  have hw : IntKind.u64.wrap ((d : Int) * d) = ((d * d : Nat) : Int) := by
    rw [← Int.natCast_mul]; exact wu64_id _ (by omega) (by omega)
  by_cases c : n < d * d
  · rw [if_pos c] at E
    refine Ev.step (f := fun k => sieve_Factor.j2 k (n : Int) acc (n : Int)) (fun k => ?_) (Ev.step (fun k => ?_) E)
    · simp only [sieve_Factor.l0]
      rw [if_pos (by omega), hw, if_pos (by omega)]
    · simp only [sieve_Factor.j2]
  · rw [if_neg c] at E
    refine Ev.step (f := fun k => sieve_Factor.j2 k (n : Int) acc (d : Int)) (fun k => ?_) (Ev.step (fun k => ?_) E)
    · simp only [sieve_Factor.l0]
      rw [if_pos (by omega), hw, if_neg (by omega)]
    · simp only [sieve_Factor.j2]
theorem rfac_go {acc : List S34} {n d : Nat} {R : List S34} (h2 : d ≤ 65537) (c : d * d ≤ n)
    (E : Ev (fun k => epicycleref05_Factor.l1 k (n : Int) acc (d : Int) 0) R) : Ev (fun k => epicycleref05_Factor.l0 k (n : Int) acc (d : Int)) R := by
  have h1 : d * d ≤ 65537 * 65537 := Nat.mul_le_mul h2 h2
  have hw : IntKind.u64.wrap ((d : Int) * d) = ((d * d : Nat) : Int) := by
    rw [← Int.natCast_mul]; exact wu64_id _ (by omega) (by omega)
  refine Ev.step (fun k => ?_) E
  simp only [epicycleref05_Factor.l0]
  rw [hw, if_pos (by omega)]
theorem rfac_last {acc : List S34} {n d : Nat} (h2 : d ≤ 65537) (hn : 2 ≤ n) (c : n < d * d) (hacc : acc.length < 8796093022208) :
    Ev (fun k => epicycleref05_Factor.l0 k (n : Int) acc (d : Int)) (acc ++ [⟨(n : Int), 1⟩]) := by
  have h1 : d * d ≤ 65537 * 65537 := Nat.mul_le_mul h2 h2
  have hw : IntKind.u64.wrap ((d : Int) * d) = ((d * d : Nat) : Int) := by
    rw [← Int.natCast_mul]; exact wu64_id _ (by omega) (by omega)
  refine Ev.step (f := fun _ => some (acc ++ [⟨(n : Int), 1⟩])) (fun k => ?_) (Ev.now _)
  simp only [epicycleref05_Factor.l0]
  rw [hw, if_neg (by omega), if_pos (by omega), if_pos hacc]
theorem fac_both (M : Nat) : ∀ n d : Nat, 65538 - d ≤ M → 1 ≤ n → n ≤ 4294967296 → 2 ≤ d → d ≤ 65537 → (∀ c, 2 ≤ c → c < d → ¬ c ∣ n) →
    ∃ l : List (Nat × Nat), Facs d n l ∧ (∀ acc : List S33, acc.length ≤ d → Ev (fun k => sieve_Factor.l0 k (n : Int) acc (d : Int)) (acc ++ m33 l)) ∧
      (∀ acc : List S34, acc.length ≤ d → Ev (fun k => epicycleref05_Factor.l0 k (n : Int) acc (d : Int)) (acc ++ m34 l)) := by
  induction M with
  | zero => intro n d h1 _ _ _ h2; omega
  | succ M ih =>
    intro n d hM n1 hn d2 hd hno
    rcases Nat.lt_or_ge n 2 with n2 | n2
    · have : n = 1 := by omega
      subst this
      refine ⟨[], ⟨by simp, List.Pairwise.nil, rfl⟩, fun acc _ => ?_, fun acc _ => ?_⟩
      · rw [show m33 [] = [] from rfl, List.append_nil]; exact fac_done
      · rw [show m34 [] = [] from rfl, List.append_nil]; exact rfac_done (by omega) (by omega)
    rcases Nat.lt_or_ge n (d * d) with c | c
    · have hp := prime_of_trials n2 c hno
      have dn : d ≤ n := Nat.le_of_not_lt fun x => hno n n2 x (Nat.dvd_refl n)
      refine ⟨[(n, 1)], ⟨by simp [hp, dn], by simp, by simp [prod]⟩, fun acc ha => ?_, fun acc ha => ?_⟩
      · refine fac_go n2 hd ?_
        rw [if_pos c]
        have nd : ¬ n ∣ 1 := fun x => by have := Nat.le_of_dvd (by decide) x; omega
        refine fac_l1 (m := 1) n2 (by omega) (by omega) nd (by decide) 1 0 n (by omega) (by omega) (by rw [Nat.pow_one, Nat.mul_one]) ?_
        exact fac_done
      · exact rfac_last hd n2 c (by omega)
    · have d6 : d ≤ 65536 := by
        refine Nat.le_of_not_lt fun x => ?_
        have := Nat.mul_le_mul (Nat.succ_le_of_lt x) (Nat.succ_le_of_lt x)
        omega
      obtain ⟨e, m, hnm, hdm, m0, e1, m1⟩ := strip d d2 n n1
      have hno' : ∀ c, 2 ≤ c → c < d + 1 → ¬ c ∣ m := by
        intro c c2 cd hc
        rcases Nat.lt_or_ge c d with x | x
        · exact hno c c2 x (hnm ▸ Nat.dvd_trans hc ⟨d ^ e, Nat.mul_comm _ _⟩)
        · exact hdm ((show d = c by omega) ▸ hc)
      obtain ⟨l, ⟨f1, f2, f3⟩, L1, L2⟩ := ih m (d + 1) (by omega) m0 (by omega) (by omega) (by omega) hno'
      rcases Nat.eq_zero_or_pos e with e0 | e0
      · subst e0
        rw [Nat.pow_zero, Nat.one_mul] at hnm
        subst hnm
        refine ⟨l, ⟨fun x hx => ⟨(f1 x hx).1, by have := (f1 x hx).2.1; omega, (f1 x hx).2.2⟩, f2, f3⟩, fun acc ha => ?_, fun acc ha => ?_⟩
        · refine fac_go n2 hd ?_
          rw [if_neg (by omega)]
          exact fac_l1 d2 (by omega) (by omega) hdm m0 0 0 n (by omega) (by omega) (by rw [Nat.pow_zero, Nat.one_mul]) (L1 acc (by omega))
        · refine rfac_go hd c ?_
          exact rfac_l1 d2 (by omega) (by omega) hdm m0 0 0 n (by omega) (by omega) (by rw [Nat.pow_zero, Nat.one_mul]) (L2 acc (by omega))
      · have dvd : d ∣ n := by
          obtain ⟨e', rfl⟩ : ∃ e', e = e' + 1 := ⟨e - 1, by omega⟩
          exact ⟨d ^ e' * m, by rw [hnm, Nat.pow_succ, Nat.mul_comm (d ^ e') d, Nat.mul_assoc]⟩
        have hp := prime_of_least d2 dvd hno
        refine ⟨(d, e) :: l, ⟨?_, ?_, ?_⟩, fun acc ha => ?_, fun acc ha => ?_⟩
        · intro x hx
          rcases List.mem_cons.1 hx with rfl | hx
          · exact ⟨hp, Nat.le_refl _, e0⟩
          · exact ⟨(f1 x hx).1, by have := (f1 x hx).2.1; omega, (f1 x hx).2.2⟩
        · refine List.pairwise_cons.2 ⟨fun x hx => ?_, f2⟩
          have := (f1 x hx).2.1
          show d < x.1
          omega
        · show d ^ e * prod l = n
          rw [f3, hnm]
        · refine fac_go n2 hd ?_
          rw [if_neg (by omega)]
          refine fac_l1 d2 (by omega) (by omega) hdm m0 e 0 n (by omega) (by omega) hnm ?_
          rw [Nat.zero_add, if_pos (by omega)]
          have := L1 (acc ++ [⟨(d : Int), (e : Int)⟩]) (by rw [List.length_append]; show acc.length + 1 ≤ d + 1; omega)
          rw [List.append_assoc] at this
          exact this
        · refine rfac_go hd c ?_
          refine rfac_l1 d2 (by omega) (by omega) hdm m0 e 0 n (by omega) (by omega) hnm ?_
          rw [Nat.zero_add, if_pos (by omega)]
          have := L2 (acc ++ [⟨(d : Int), (e : Int)⟩]) (by rw [List.length_append]; show acc.length + 1 ≤ d + 1; omega)
          rw [List.append_assoc] at this
          exact this
theorem Factor_both (n : Nat) (h2 : 2 ≤ n) (hn : n ≤ 4294967296) : ∃ l : List (Nat × Nat), Facs 2 n l ∧ Ev (fun k => sieve_Factor.f k (n : Int)) (m33 l) ∧ Ev (fun k => epicycleref05_Factor.f k (n : Int)) (m34 l) := by
  obtain ⟨l, f, L1, L2⟩ := fac_both 65538 n 2 (by omega) (by omega) hn (by omega) (by omega) (fun c a b => by omega)
  refine ⟨l, f, ?_, ?_⟩
  · refine Ev.congr (g := fun k => sieve_Factor.f k (n : Int)) (f := fun k => sieve_Factor.j0 k (n : Int) false) (fun k => ?_) (Ev.step (fun k => ?_) (L1 [] (by simp)))
    · simp only [sieve_Factor.f]
      rw [if_neg (by omega), decide_eq_false (by omega)]
    · simp [sieve_Factor.j0]
  · refine Ev.congr (g := fun k => epicycleref05_Factor.f k (n : Int)) (f := fun k => epicycleref05_Factor.j0 k (n : Int) [] false) (fun k => ?_) (Ev.step (fun k => ?_) (L2 [] (by simp)))
    · simp only [epicycleref05_Factor.f]
      rw [if_neg (by omega), decide_eq_false (by omega)]
    · simp [epicycleref05_Factor.j0]
theorem Factor_none (x : Int) (h : x < 2 ∨ 4294967296 < x) : Ev (fun k => sieve_Factor.f k x) [] ∧ Ev (fun k => epicycleref05_Factor.f k x) [] := by
  constructor
  · refine Ev.congr (g := fun k => sieve_Factor.f k x) (f := fun k => sieve_Factor.j0 k x true) (fun k => ?_) (Ev.step (f := fun _ => some []) (fun k => ?_) (Ev.now _))
    · simp only [sieve_Factor.f]
      split
      · rfl
      · rw [decide_eq_true (by omega)]
    · simp [sieve_Factor.j0]
  · refine Ev.congr (g := fun k => epicycleref05_Factor.f k x) (f := fun k => epicycleref05_Factor.j0 k x [] true) (fun k => ?_) (Ev.step (f := fun _ => some []) (fun k => ?_) (Ev.now _))
    · simp only [epicycleref05_Factor.f]
      split
      · rfl
      · rw [decide_eq_true (by omega)]
    · simp [epicycleref05_Factor.j0]
theorem Facs.le {d n : Nat} {l : List (Nat × Nat)} (h : Facs d n l) (hn : 0 < n) {x : Nat × Nat} (hx : x ∈ l) : x.1 ∣ n := by
  obtain ⟨h1, h2, rfl⟩ := h
  clear hn h2
  induction l with
  | nil => cases hx
  | cons y l ih =>
    rcases List.mem_cons.1 hx with rfl | hx
    · obtain ⟨e, he⟩ : ∃ e, x.2 = e + 1 := ⟨x.2 - 1, by have := (h1 x List.mem_cons_self).2.2; omega⟩
      show x.1 ∣ x.1 ^ x.2 * prod l
      rw [he, Nat.pow_succ, Nat.mul_comm (x.1 ^ e), Nat.mul_assoc]
      exact ⟨_, rfl⟩
    · exact Nat.dvd_trans (ih hx (fun z hz => h1 z (List.mem_cons_of_mem _ hz))) ⟨y.1 ^ y.2, Nat.mul_comm _ _⟩
theorem Facs.prime {d n : Nat} {l : List (Nat × Nat)} (h : Facs d n l) (hn : 2 ≤ n) : (∃ q, l = [(q, 1)]) ↔ Prime n := by
  constructor
  · rintro ⟨q, rfl⟩
    have h3 : q ^ 1 * 1 = n := h.2.2
    have : q = n := by rw [Nat.pow_one, Nat.mul_one] at h3; exact h3
    rw [← this]
    exact (h.1 _ List.mem_cons_self).1
  · intro hp
    have all : ∀ x ∈ l, x.1 = n := fun x hx => by
      rcases hp.2 _ (h.le (by omega) hx) with e | e
      · have := (h.1 x hx).1.1; omega
      · exact e
    match l, h, all with
    | [], h, _ => have : 1 = n := h.2.2; omega
    | [(q, e)], h, all =>
      have hq : q = n := all (q, e) List.mem_cons_self
      subst hq
      have h3 : q ^ e * 1 = q := h.2.2
      have he := (h.1 _ List.mem_cons_self).2.2
      have he : 1 ≤ e := he
      refine ⟨q, ?_⟩
      rcases Nat.lt_or_ge e 2 with c | c
      · rw [show e = 1 by omega]
      · have := Nat.pow_lt_pow_right (a := q) (by omega) (show 1 < e by omega)
        rw [Nat.pow_one] at this
        omega
    | x :: y :: t, h, all =>
      have := (List.pairwise_cons.1 h.2.1).1 y (by simp)
      have a1 := all x (by simp)
      have a2 := all y (by simp)
      omega
open Classical in
/-- The program's Prime tells the primes. -/
theorem Prime_ev (n : Nat) (hn : n ≤ 4294967296) : Ev (fun k => sieve_Prime.f k (n : Int)) (decide (Prime n)) := by
  rcases Nat.lt_or_ge n 2 with c | c
  · have hp : ¬ Prime n := fun h => by have := h.1; omega
    rw [decide_eq_false hp]
    exact Ev.congr (fun k => rfl) (Ev.bind (Factor_none _ (.inl (by omega))).1 (Ev.now _))
  · obtain ⟨l, f, L, _⟩ := Factor_both n c hn
    refine Ev.congr (fun k => rfl) (Ev.bind L ?_)
    have hp := f.prime c
    match l, f, hp with
    | [], f, _ => have : 1 = n := f.2.2; omega
    | [(q, e)], f, hp =>
      show Ev (fun _ => some (((e : Int)) == 1)) _
      have : ((e : Int) == 1) = decide (Prime n) := by
        rw [Bool.eq_iff_iff]
        simp only [beq_iff_eq, decide_eq_true_eq]
        rw [← hp]
        constructor
        · intro h; exact ⟨q, by rw [show e = 1 by omega]⟩
        · rintro ⟨q', h⟩
          cases h; rfl
      rw [this]
      exact Ev.now _
    | x :: y :: t, f, hp =>
      have hp' : ¬ Prime n := fun h => by obtain ⟨q, hq⟩ := hp.2 h; cases hq
      rw [decide_eq_false hp']
      refine evN ?_ (Ev.now _)
      unfold m33
      rw [List.length_map, List.length_cons, List.length_cons]
      omega
end Go.Proofs.Ytcphlhphdpjnfaa.XS
end
