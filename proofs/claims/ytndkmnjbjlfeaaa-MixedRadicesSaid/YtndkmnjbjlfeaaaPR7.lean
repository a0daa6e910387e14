/- Parts of this claim's texts, packed by wip/tools/prune.py: what the proof does not reach is left out. -/
import Derived.Test.YtndkmnjbjlfeaaaPR6
section
namespace Go.Proofs.Ytndkmnjbjlfeaaa.XQ
open Go.RowKit Go.Proofs.Ytndkmnjbjlfeaaa.Given Go.Proofs.Ytndkmnjbjlfeaaa.GivenS Go.Proofs.YtndkmnjbjlfeaaaW.PrintWords Go.Proofs.YtndkmnjbjlfeaaaW.PrintLast Go.Proofs.YtndkmnjbjlfeaaaW.PrintMore
attribute [local go_sem] max2_int min2_int max_two min_two max_three min_three max_four min_four   -- for this text's walks alone
set_option linter.unusedVariables false
set_option linter.unusedSimpArgs false
mutual
def slices_pdqsortOrdered_uint64.l0 : Nat → List Int → Int → Int → Int → Bool → Option (List Int)
 | 0, _, _, _, _, _ => none
 | k + 1, x0, x1, x2, x3, x8 => if (wrap64 (x2 - x1)) ≤ 12 then ((slices_insertionSortOrdered_uint64.f k x0 x1 x2).bind fun t110 => (some t110)) else (if x3 = 0 then (none) else (if x8 = true then (none) else (none)))
def slices_pdqsortOrdered_uint64.f : Nat → List Int → Int → Int → Int → Option (List Int)
 | 0, _, _, _, _ => none
 | k + 1, l0, a1, a2, a3 => slices_pdqsortOrdered_uint64.l0 k l0 a1 a2 a3 true
end
set_option maxHeartbeats 8000000 in
set_option maxRecDepth 100000 in
theorem slices_pdqsortOrdered_uint64.calls (k : Nat) : ∀ (P0_ : Nat → Prop) (u9000_ : Value) (l0 : List Int) (a1 : Int) (a2 : Int) (a3 : Int) (r : List Int) (w0 w : World) (hB : Below w0.heap.size w0 w) (ho0 : Kd.R (Kd.int .u64) 31 w w0.heap.size P0_ u9000_ l0) (h : slices_pdqsortOrdered_uint64.f k l0 a1 a2 a3 = some r),
  Calls Try.prog 55 #[u9000_, .int .i64 a1, .int .i64 a2, .int .i64 a3] w fun e w' => e = .returned (.tuple #[]) ∧ Kd.R (Kd.int .u64) 31 w' w0.heap.size (fun k_ => (P0_ k_ ∨ w.heap.size ≤ k_)) u9000_ r ∧ Below w0.heap.size w0 w' ∧ Kept w w' (fun k_ => P0_ k_) := by
 induction k using Nat.strongRecOn with
 | _ k ih =>
 intro P0_ u9000_ l0 a1 a2 a3 r w0 w hB ho0 h
 cases k with
 | zero => exact absurd h (by simp [slices_pdqsortOrdered_uint64.f])
 | succ k =>
 simp only [slices_pdqsortOrdered_uint64.f] at h
 have HO0 := Aside0.mk (show Kd.R (Kd.int .u64) 31 w w0.heap.size (fun k_ => (P0_ k_ ∨ w.heap.size ≤ k_)) u9000_ l0 from Kd.R_mono ho0 (fun k_ hk => (.inl hk)))
 have HK := Aside0.mk (Kept.refl w (fun k_ => P0_ k_))
 have HW0 := Aside0.mk hB.size
 have HB := Aside0.mk hB
 clear hB
 have H : (slices_pdqsortOrdered_uint64.l0 k l0 a1 a2 a3 true) = some r := h
 clear h
 have H' := Aside0.mk H
 clear H
 go_enter Try.func55, Try.ntmps55
 go_wp2
 repeat (go_quiet (fail); try go_wp2)
 go_loopg [1, 2, 3, 8] k (fun kq v1 v2 v3 v8 w' => ∃ (x0_1 : List Int) (x1_1 : Int) (x2_1 : Int) (x3_1 : Int) (x8_1 : Bool), v1 = .int .i64 x1_1 ∧ v2 = .int .i64 x2_1 ∧ v3 = .int .i64 x3_1 ∧ v8 = .bool x8_1 ∧ Aside0 (slices_pdqsortOrdered_uint64.l0 kq x0_1 x1_1 x2_1 x3_1 x8_1 = some r) ∧ Aside0 (kq ≤ k) ∧ Aside0 (Kd.R (Kd.int .u64) 31 w' w0.heap.size (fun k_ => (P0_ k_ ∨ w.heap.size ≤ k_)) u9000_ x0_1) ∧ Aside0 (Kept w w' (fun k_ => P0_ k_)) ∧ Aside0 (Below w0.heap.size w0 w'))
 case atStart => exact ⟨(l0), (a1), (a2), (a3), (true), (by first | rfl | (simp; done) | (simp [*]; done)), (by first | rfl | (simp; done) | (simp [*]; done)), (by first | rfl | (simp; done) | (simp [*]; done)), (by first | rfl | (simp; done) | (simp [*]; done)), H', ⟨Nat.le_refl _⟩, ⟨by (with_reducible repeat (first | apply Kd.R_alloc | apply Kd.R_drewN | apply Kd.R_drew)); exact HO0.out⟩, ⟨by repeat (first | (with_reducible first | exact HK.out | apply Kept.alloc | apply Kept.drewN | apply Kept.drew) | exact HK.out)⟩, ⟨by repeat (first | (with_reducible first | exact HB.out | apply below_alloc | apply pw_below_drewN | apply below_drew1) | exact HB.out)⟩⟩
 case round =>
  clear H'
  try clear p2
  obtain ⟨x0_1, x1_1, x2_1, x3_1, x8_1, rfl, rfl, rfl, rfl, HA, HK1, HO_0, HK, HB⟩ := hrel
  cases gk with
  | zero => exact absurd HA.out (by simp [slices_pdqsortOrdered_uint64.l0])
  | succ k1 =>
   have H := HA.out
   clear HA
   simp only [slices_pdqsortOrdered_uint64.l0] at H
   by_cases c5 : (wrap64 (x2_1 - x1_1)) ≤ 12
   ·rw [if_pos c5] at H
    have c5b0 : decide ((wrap64 (x2_1 - x1_1)) ≤ 12) = true := decide_eq_true c5
    clear c5
    replace H := Option.bind_eq_some_iff.mp H
    obtain ⟨t110, A60, H⟩ := H
    replace H : (some t110) = some r := H
    have A6 := Aside0.mk A60
    clear A60
    obtain rfl := Option.some.inj H
    obtain ⟨Ao7, co7, eo7⟩ := Kd.R_slice HO_0.out
    subst eo7
    go_wp2_with (first | (go_at_call 67; (with_reducible refine (slices_insertionSortOrdered_uint64.calls k1 (fun k_ => some k_ = (.slice Ao7 x0_1.length co7 : Value).ownBlock) (.slice Ao7 x0_1.length co7) x0_1 x1_1 x2_1 t110 w0 _ ?side1 ?side2 A6.out).mono ?_); (case side1 => repeat (first | (with_reducible first | exact HB.out | apply below_alloc | apply pw_below_drewN | apply below_drew1) | exact HB.out)); (case side2 => exact Kd.R_tight rfl HO_0.out); rintro e w8 ⟨rfl, hy0, hb, hkp⟩; have n0_ := Aside0.mk (Kd.R_reok rfl hy0 (fun k_ e_ => HO_0.out.1 k_ e_)); have n1_ := Aside0.mk (Kept.then_ (S := (fun k_ => P0_ k_)) (by repeat (first | (with_reducible first | exact HK.out | apply Kept.alloc | apply Kept.drewN | apply Kept.drew) | exact HK.out)) hkp (fun k_ hs_ => (fun e_ => (HO_0.out.1 k_ e_.symm)) hs_)); have n2_ := Aside0.mk (hb); clear HO_0; clear HK; clear HB; have HO_0 := n0_; have HK := n1_; have HB := n2_; clear n0_ n1_ n2_; (try clear hb); (try clear hkp); (try clear hy0)))
    repeat (go_quiet (first | (go_at_call 67; (with_reducible refine (slices_insertionSortOrdered_uint64.calls k1 (fun k_ => some k_ = (.slice Ao7 x0_1.length co7 : Value).ownBlock) (.slice Ao7 x0_1.length co7) x0_1 x1_1 x2_1 t110 w0 _ ?side1 ?side2 A6.out).mono ?_); (case side1 => repeat (first | (with_reducible first | exact HB.out | apply below_alloc | apply pw_below_drewN | apply below_drew1) | exact HB.out)); (case side2 => exact Kd.R_tight rfl HO_0.out); rintro e w8 ⟨rfl, hy0, hb, hkp⟩; have n0_ := Aside0.mk (Kd.R_reok rfl hy0 (fun k_ e_ => HO_0.out.1 k_ e_)); have n1_ := Aside0.mk (Kept.then_ (S := (fun k_ => P0_ k_)) (by repeat (first | (with_reducible first | exact HK.out | apply Kept.alloc | apply Kept.drewN | apply Kept.drew) | exact HK.out)) hkp (fun k_ hs_ => (fun e_ => (HO_0.out.1 k_ e_.symm)) hs_)); have n2_ := Aside0.mk (hb); clear HO_0; clear HK; clear HB; have HO_0 := n0_; have HK := n1_; have HB := n2_; clear n0_ n1_ n2_; (try clear hb); (try clear hkp); (try clear hy0))); try go_wp2_with (first | (go_at_call 67; (with_reducible refine (slices_insertionSortOrdered_uint64.calls k1 (fun k_ => some k_ = (.slice Ao7 x0_1.length co7 : Value).ownBlock) (.slice Ao7 x0_1.length co7) x0_1 x1_1 x2_1 t110 w0 _ ?side1 ?side2 A6.out).mono ?_); (case side1 => repeat (first | (with_reducible first | exact HB.out | apply below_alloc | apply pw_below_drewN | apply below_drew1) | exact HB.out)); (case side2 => exact Kd.R_tight rfl HO_0.out); rintro e w8 ⟨rfl, hy0, hb, hkp⟩; have n0_ := Aside0.mk (Kd.R_reok rfl hy0 (fun k_ e_ => HO_0.out.1 k_ e_)); have n1_ := Aside0.mk (Kept.then_ (S := (fun k_ => P0_ k_)) (by repeat (first | (with_reducible first | exact HK.out | apply Kept.alloc | apply Kept.drewN | apply Kept.drew) | exact HK.out)) hkp (fun k_ hs_ => (fun e_ => (HO_0.out.1 k_ e_.symm)) hs_)); have n2_ := Aside0.mk (hb); clear HO_0; clear HK; clear HB; have HO_0 := n0_; have HK := n1_; have HB := n2_; clear n0_ n1_ n2_; (try clear hb); (try clear hkp); (try clear hy0))))
    first | go_end0 | ((try simp only [Exit.inBlock, Exit.then]); refine bodyPost_ret (results_none rfl _ _ _) rfl ?_)
    exact ⟨by first | rfl | (simp [errW_none, errW_some] <;> rfl) | (simp [*, errW_none, errW_some] <;> rfl), by (with_reducible repeat (first | apply Kd.R_alloc | apply Kd.R_drewN | apply Kd.R_drew)); exact HO_0.out, by repeat (first | (with_reducible first | exact HB.out | apply below_alloc | apply pw_below_drewN | apply below_drew1) | exact HB.out), by repeat (first | (with_reducible first | exact HK.out | apply Kept.alloc | apply Kept.drewN | apply Kept.drew) | exact HK.out)⟩
   ·rw [if_neg c5] at H
    have c5b0 : decide ((wrap64 (x2_1 - x1_1)) ≤ 12) = false := decide_eq_false c5
    clear c5
    by_cases c9 : x3_1 = 0
    ·rw [if_pos c9] at H
     exact absurd H (by simp)
    ·rw [if_neg c9] at H
     have c9b0 : (x3_1 == 0) = false := beq_eq_false_iff_ne.mpr c9
     have c9b1 : (x3_1 != 0) = true := bne_iff_ne.mpr c9
     by_cases c10 : x8_1 = true
     ·subst c10
      have H1 : (none) = some r := by rw [if_pos rfl] at H <;> exact H
      clear H
      have H := H1
      clear H1
      exact absurd H (by simp)
     ·replace c10 := Bool.eq_false_iff.mpr c10
      subst c10
      have H1 : (none) = some r := by rw [if_neg (show ¬ (false = true) by decide)] at H <;> exact H
      clear H
      have H := H1
      clear H1
      exact absurd H (by simp)
def slices_Sort_uint64_uint64.f (k : Nat) (l0 : List Int) : Option (List Int) := (bits_Len.f (IntKind.u64.wrap ((l0.length : Int)))).bind fun t111 => ((slices_pdqsortOrdered_uint64.f k l0 0 (l0.length : Int) t111).bind fun t112 => (some t112))
set_option maxHeartbeats 8000000 in
set_option maxRecDepth 100000 in
theorem slices_Sort_uint64_uint64.calls (k : Nat) (P0_ : Nat → Prop) (u9000_ : Value) (l0 : List Int) (r : List Int) (w0 w : World) (hB : Below w0.heap.size w0 w) (ho0 : Kd.R (Kd.int .u64) 31 w w0.heap.size P0_ u9000_ l0) (h : slices_Sort_uint64_uint64.f k l0 = some r) :
  Calls Try.prog 38 #[u9000_] w fun e w' => e = .returned (.tuple #[]) ∧ Kd.R (Kd.int .u64) 31 w' w0.heap.size (fun k_ => (P0_ k_ ∨ w.heap.size ≤ k_)) u9000_ r ∧ Below w0.heap.size w0 w' ∧ Kept w w' (fun k_ => P0_ k_) := by
 have HO0 := Aside0.mk (show Kd.R (Kd.int .u64) 31 w w0.heap.size (fun k_ => (P0_ k_ ∨ w.heap.size ≤ k_)) u9000_ l0 from Kd.R_mono ho0 (fun k_ hk => (.inl hk)))
 have HK := Aside0.mk (Kept.refl w (fun k_ => P0_ k_))
 have HW0 := Aside0.mk hB.size
 have HB := Aside0.mk hB
 clear hB
 have H : ((bits_Len.f (IntKind.u64.wrap ((l0.length : Int)))).bind fun t111 => ((slices_pdqsortOrdered_uint64.f k l0 0 (l0.length : Int) t111).bind fun t112 => (some t112))) = some r := h
 clear h
 replace H := Option.bind_eq_some_iff.mp H
 obtain ⟨t111, A20, H⟩ := H
 replace H : ((slices_pdqsortOrdered_uint64.f k l0 0 (l0.length : Int) t111).bind fun t112 => (some t112)) = some r := H
 have A2 := Aside0.mk A20
 clear A20
 replace H := Option.bind_eq_some_iff.mp H
 obtain ⟨t112, A30, H⟩ := H
 replace H : (some t112) = some r := H
 have A3 := Aside0.mk A30
 clear A30
 obtain rfl := Option.some.inj H
 obtain ⟨Ao4, co4, eo4⟩ := Kd.R_slice HO0.out
 subst eo4
 go_enter Try.func38, Try.ntmps38
 go_wp2_with (first | ((with_reducible refine gate_callee (f := 56) rfl ?_); refine goesL_ (some 9) rfl rfl Try.func56 (by kernel_rfl) rfl #[.int .u64 (IntKind.u64.wrap ((l0.length : Int)))] rfl (by (try simp only [List.map_toArray, List.map_cons, List.map_nil]); first | done | rfl | (simp only [List.length_drop, List.length_take]; rfl)) ?_; (with_reducible refine (bits_Len.calls (IntKind.u64.wrap ((l0.length : Int))) t111 _ A2.out).mono ?_); rintro e w' ⟨rfl, ⟨nd, rfl⟩⟩; refine ⟨_, rfl, ?_⟩) | ((with_reducible refine gate_callee (f := 55) rfl ?_); refine goesL_ (some 10) rfl rfl Try.func55 (by kernel_rfl) rfl #[.slice Ao4 l0.length co4, .int .i64 0, .int .i64 (l0.length : Int), .int .i64 t111] rfl (by (try simp only [List.map_toArray, List.map_cons, List.map_nil]); first | done | rfl | (simp only [List.length_drop, List.length_take]; rfl)) ?_; (with_reducible refine (slices_pdqsortOrdered_uint64.calls k (fun k_ => some k_ = (.slice Ao4 l0.length co4 : Value).ownBlock) (.slice Ao4 l0.length co4) l0 0 (l0.length : Int) t111 t112 w0 _ ?side1 ?side2 A3.out).mono ?_); (case side1 => repeat (first | (with_reducible first | exact HB.out | apply below_alloc | apply pw_below_drewN | apply below_drew1) | exact HB.out)); (case side2 => exact Kd.R_tight rfl HO0.out); rintro e w5 ⟨rfl, hy0, hb, hkp⟩; refine ⟨_, rfl, ?_⟩; have n0_ := Aside0.mk (Kd.R_reok rfl hy0 (fun k_ e_ => HO0.out.1 k_ e_)); have n1_ := Aside0.mk (Kept.then_ (S := (fun k_ => P0_ k_)) (by repeat (first | (with_reducible first | exact HK.out | apply Kept.alloc | apply Kept.drewN | apply Kept.drew) | exact HK.out)) hkp (fun k_ hs_ => (fun e_ => (HO0.out.1 k_ e_.symm)) hs_)); have n2_ := Aside0.mk (hb); clear HO0; clear HK; clear HB; have HO0 := n0_; have HK := n1_; have HB := n2_; clear n0_ n1_ n2_; (try clear hb); (try clear hkp); (try clear hy0)))
 first | go_end0 | ((try simp only [Exit.inBlock, Exit.then]); refine bodyPost_ret (results_none rfl _ _ _) rfl ?_)
 exact ⟨by first | rfl | (simp [errW_none, errW_some] <;> rfl) | (simp [*, errW_none, errW_some] <;> rfl), by (with_reducible repeat (first | apply Kd.R_alloc | apply Kd.R_drewN | apply Kd.R_drew)); exact HO0.out, by repeat (first | (with_reducible first | exact HB.out | apply below_alloc | apply pw_below_drewN | apply below_drew1) | exact HB.out), by repeat (first | (with_reducible first | exact HK.out | apply Kept.alloc | apply Kept.drewN | apply Kept.drew) | exact HK.out)⟩
end Go.Proofs.Ytndkmnjbjlfeaaa.XQ
end
section
namespace Go.Proofs.Ytndkmnjbjlfeaaa.XQ
open Go Go.RowKit Go.Proofs.YtndkmnjbjlfeaaaW.PrintWords Go.Proofs.YtndkmnjbjlfeaaaW.PrintLast Go.Proofs.YtndkmnjbjlfeaaaW.PrintMore Go.Proofs.Ytndkmnjbjlfeaaa.Given Go.Proofs.Ytndkmnjbjlfeaaa.GivenS Go.Proofs.Ytndkmnjbjlfeaaa.M
theorem less_eq (a b : Int) : cmp_Less_uint64.f a b = some (decide (a < b)) := by
  unfold cmp_Less_uint64.f cmp_isNaN_uint64.f
  simp
theorem rd_mid (A : List Int) (x : Int) (T : List Int) {i : Int} (hi : i = A.length) : rd (A ++ x :: T) i = x := by
  subst hi
  unfold rd
  rw [Int.toNat_natCast, List.getD_eq_getElem?_getD, List.getElem?_append_right (Nat.le_refl _), Nat.sub_self]
  rfl
theorem ins_l1 {G : List Int → Prop} {n i : Int} {C : List Int} (hi : 0 ≤ i) (hi2 : i < 100)
    (A : List Int) : ∀ (m : Nat) (B : List Int) (v : Int), A.length = m → A.length + B.length < 100 → ((A ++ B).Pairwise (· ≤ ·)) → (∀ b ∈ B, v ≤ b) →
      (∀ L' : List Int, L'.Perm (A ++ v :: B) → L'.Pairwise (· ≤ ·) → ∃ R, G R ∧ Ev (fun k => slices_insertionSortOrdered_uint64.l0 k (L' ++ C) 0 n (i + 1)) R) →
      ∃ R, G R ∧ Ev (fun k => slices_insertionSortOrdered_uint64.l1 k (A ++ v :: (B ++ C)) 0 n i (A.length : Int)) R := by
  have hw1 : wrap64 (i + 1) = i + 1 := w64_id _ (by omega) (by omega)
  intro m
  induction m generalizing A with
  | zero =>
    intro B v hA hl hs hv K
    have : A = [] := List.length_eq_zero_iff.1 hA
    subst this
    obtain ⟨R, hG, K1⟩ := K (v :: B) (List.Perm.refl _) (List.pairwise_cons.2 ⟨hv, hs⟩)
    refine ⟨R, hG, Ev.step (fun k => ?_) K1⟩
    simp only [slices_insertionSortOrdered_uint64.l1]
    rw [if_neg (by simp), hw1]
    rfl
  | succ m ih =>
    intro B v hA hl hs hv K
    obtain ⟨A', u, rfl⟩ : ∃ A' u, A = A' ++ [u] := ⟨A.dropLast, A.getLast (by rintro rfl; cases hA), (List.dropLast_concat_getLast _).symm⟩
    have hA' : A'.length = m := by rw [List.length_append] at hA; simpa using hA
    have hl' : (A' ++ [u]).length = A'.length + 1 := by simp
    have e0 : A' ++ [u] ++ v :: (B ++ C) = A' ++ u :: v :: (B ++ C) := by simp
    have hj : wrap64 (((A' ++ [u]).length : Int) - 1) = (A'.length : Int) := by rw [hl', w64_id _ (by omega) (by omega)]; omega
    have r1 : rd (A' ++ [u] ++ v :: (B ++ C)) ((A' ++ [u]).length : Int) = v := rd_mid _ _ _ rfl
    have r2 : rd (A' ++ [u] ++ v :: (B ++ C)) (A'.length : Int) = u := by rw [e0]; exact rd_mid _ _ _ rfl
    have lt1 : ((A' ++ [u]).length : Int) < ((A' ++ [u] ++ v :: (B ++ C)).length : Int) := by simp; omega
    have lt2 : (A'.length : Int) < ((A' ++ [u] ++ v :: (B ++ C)).length : Int) := by rw [hl'] at lt1; omega
    have p1 : ((A' ++ [u]).length : Int) > 0 := by omega
    have p2 : (0 : Int) ≤ ((A' ++ [u]).length : Int) := by omega
    have p3 : (0 : Int) ≤ (A'.length : Int) := by omega
    by_cases c : v < u
    · have hs' : (A' ++ (u :: B)).Pairwise (· ≤ ·) := by have := hs; rw [List.append_assoc] at this; exact this
      obtain ⟨R, hG, IH⟩ := ih A' (u :: B) v hA' (by simp at hl ⊢; omega) hs' (fun b hb => by
        rcases List.mem_cons.1 hb with rfl | hb
        · omega
        · exact hv b hb) (fun L' hp hso => K L' (hp.trans (by
          rw [List.append_assoc]
          exact List.Perm.append_left A' (List.Perm.swap _ _ _))) hso)
      have es : ((A' ++ [u] ++ v :: (B ++ C)).set ((A' ++ [u]).length : Int).toNat u).set (A'.length : Int).toNat v = A' ++ v :: (u :: B ++ C) := by
        rw [Int.toNat_natCast, Int.toNat_natCast, hl', e0]
        rw [List.set_append_right _ _ (by omega), List.set_append_right _ _ (by omega)]
        simp
      refine ⟨R, hG, Ev.step (fun k => ?_) IH⟩
      simp only [slices_insertionSortOrdered_uint64.l1]
      rw [if_pos p1, if_pos p2, if_pos lt1, hj, if_pos p3, if_pos lt2, r1, r2, less_eq, decide_eq_true c, es]
      rfl
    · have hs2 : (A' ++ [u] ++ v :: B).Pairwise (· ≤ ·) := by
        rw [List.pairwise_append] at hs ⊢
        obtain ⟨h1, h2, h3⟩ := hs
        refine ⟨h1, List.pairwise_cons.2 ⟨hv, h2⟩, fun a ha b hb => ?_⟩
        rcases List.mem_cons.1 hb with rfl | hb
        · rw [List.pairwise_append] at h1
          rcases List.mem_append.1 ha with ha | ha
          · have := h1.2.2 a ha u (by simp); omega
          · have : a = u := by simpa using ha
            omega
        · exact h3 a ha b hb
      obtain ⟨R, hG, K1⟩ := K _ (List.Perm.refl _) hs2
      have e1 : A' ++ [u] ++ v :: B ++ C = A' ++ [u] ++ v :: (B ++ C) := by simp
      rw [e1] at K1
      refine ⟨R, hG, Ev.step (fun k => ?_) K1⟩
      simp only [slices_insertionSortOrdered_uint64.l1]
      rw [if_pos p1, if_pos p2, if_pos lt1, hj, if_pos p3, if_pos lt2, r1, r2, less_eq, decide_eq_false c, hw1]
      rfl
theorem ins_l0 {ss : List Int} (hn : ss.length ≤ 12) (C : List Int) : ∀ P : List Int, P ≠ [] → (P ++ C).Perm ss → P.Pairwise (· ≤ ·) →
    ∃ L : List Int, (L.Perm ss ∧ L.Pairwise (· ≤ ·)) ∧ Ev (fun k => slices_insertionSortOrdered_uint64.l0 k (P ++ C) 0 (ss.length : Int) (P.length : Int)) L := by
  induction C with
  | nil =>
    intro P _ hp hs
    rw [List.append_nil] at hp
    have hl := hp.length_eq
    refine ⟨P, ⟨hp, hs⟩, ?_⟩
    rw [List.append_nil]
    refine Ev.step (f := fun _ => some P) (fun k => ?_) (Ev.now _)
    simp only [slices_insertionSortOrdered_uint64.l0]
    rw [if_neg (by omega)]
  | cons v C ih =>
    intro P hP hp hs
    have hl := hp.length_eq
    rw [List.length_append, List.length_cons] at hl
    obtain ⟨R, hG, E⟩ := ins_l1 (G := fun L => L.Perm ss ∧ L.Pairwise (· ≤ ·)) (n := (ss.length : Int)) (i := (P.length : Int)) (C := C) (by omega) (by omega) P P.length [] v rfl (by simp; omega) (by simpa using hs) (by simp) (fun L' hp' hs' => by
      have hl' := hp'.length_eq
      rw [List.length_append] at hl'
      have IH := ih L' (by rintro rfl; simp at hl') ((List.Perm.append_right C hp').trans (by simpa using hp)) hs'
      rw [show (P.length : Int) + 1 = (L'.length : Int) by simp at hl'; omega]
      exact IH)
    refine ⟨R, hG, Ev.step (fun k => ?_) E⟩
    simp only [slices_insertionSortOrdered_uint64.l0]
    rw [if_pos (by omega)]
    rfl
theorem sort_ev (ss : List Int) (hn : ss.length ≤ 12) : ∃ (k : Nat) (L : List Int), slices_Sort_uint64_uint64.f k ss = some L ∧ L.Perm ss ∧ L.Pairwise (· ≤ ·) := by
  have key : ∃ L : List Int, (L.Perm ss ∧ L.Pairwise (· ≤ ·)) ∧ Ev (fun k => slices_insertionSortOrdered_uint64.l0 k ss 0 (ss.length : Int) 1) L := by
    match ss, hn with
    | [], _ =>
      refine ⟨[], ⟨List.Perm.refl _, List.Pairwise.nil⟩, Ev.step (f := fun _ => some []) (fun k => ?_) (Ev.now _)⟩
      simp only [slices_insertionSortOrdered_uint64.l0]
      rw [if_neg (by simp)]
    | x :: t, hn => exact ins_l0 hn t [x] (by simp) (List.Perm.refl _) (by simp)
  obtain ⟨L, ⟨hp, hs⟩, E⟩ := key
  have hw : wrap64 ((0 : Int) + 1) = 1 := w64_id _ (by omega) (by omega)
  have hw2 : wrap64 ((ss.length : Int) - 0) = (ss.length : Int) := by rw [w64_id _ (by omega) (by omega)]; omega
  have hb : ∃ b, bits_Len.f (IntKind.u64.wrap ((ss.length : Int))) = some b := by
    rw [wu64_id _ (by omega) (by omega)]
    unfold bits_Len.f
    rw [if_pos (by omega)]
    exact ⟨_, rfl⟩
  obtain ⟨b, hb⟩ := hb
  have E3 : Ev (fun k => slices_Sort_uint64_uint64.f k ss) L := by
    have E2 : Ev (fun k => slices_pdqsortOrdered_uint64.f k ss 0 (ss.length : Int) b) L := by
      have E1 : ∀ x8, Ev (fun k => slices_pdqsortOrdered_uint64.l0 k ss 0 (ss.length : Int) b x8) L := fun x8 => by
        refine Ev.step (f := fun k => (slices_insertionSortOrdered_uint64.f k ss 0 (ss.length : Int)).bind fun t110 => (some t110)) (fun k => ?_) (Ev.bind (Ev.congr (fun k => ?_) E) (Ev.now _))
        · simp only [slices_pdqsortOrdered_uint64.l0]
          rw [hw2, if_pos (by omega)]
        · simp only [slices_insertionSortOrdered_uint64.f]
          rw [hw]
      exact Ev.step (fun k => by simp only [slices_pdqsortOrdered_uint64.f]) (E1 true)
    exact Ev.congr (fun k => by simp only [slices_Sort_uint64_uint64.f]; rw [hb]; rfl) (Ev.bind E2 (Ev.now _))
  obtain ⟨k, hk⟩ := Ev.rounds E3
  exact ⟨k, L, hk, hp, hs⟩
end Go.Proofs.Ytndkmnjbjlfeaaa.XQ
end
