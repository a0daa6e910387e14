/- Layer 15 (coprime): In, walked by hand (a make with room, then appends). -/
import Derived.Test.YtlpbfhbfaphicaaBel
import Derived.Test.YtlpbfhbfaphicaaXC1
namespace Go.Proofs.Ytlpbfhbfaphicaa.XC
open Go Go.RowKit Go.Proofs.YtlpbfhbfaphicaaW.PrintWords Go.Proofs.YtlpbfhbfaphicaaW.PrintLast Go.Proofs.YtlpbfhbfaphicaaW.PrintMore

set_option linter.unusedVariables false
theorem info3 : (Try.prog.info? 3).map (fun i => (i.zero, i.size, i.bytes)) = some (some (.int .i64 0), 1, 8) := by kernel_rfl
mutual
noncomputable def coprime_In.l0 : Nat → Int → Int → Int → List Int → Int → Option (List Int)
  | 0, _, _, _, _, _ => none
  | k + 1, a, b, n, x6, x25 => if x25 < a then coprime_In.l1 k a b n x6 x25 0 else some x6
noncomputable def coprime_In.l1 : Nat → Int → Int → Int → List Int → Int → Int → Option (List Int)
  | 0, _, _, _, _, _, _ => none
  | k + 1, a, b, n, x6, x25, x29 => if x29 < b then (if n = 0 then none else if x6.length < 17592186044416 then coprime_In.l1 k a b n (x6 ++ [Int.tmod (wrap64 (wrap64 (b * x25) + wrap64 (a * x29))) n]) x25 (wrap64 (x29 + 1)) else none) else coprime_In.l0 k a b n x6 (wrap64 (x25 + 1))
end
noncomputable def coprime_In.f (k : Nat) (a b : Int) : Option (List Int) := (coprime_small.f a b).bind fun s => if s = true then ((coprime_Fits.f k (wrap64 (a * b)) a).bind fun t => if t = true then (if 0 ≤ wrap64 (a * b) ∧ wrap64 (a * b) ≤ 1024 then coprime_In.l0 k a b (wrap64 (a * b)) [] 0 else none) else some []) else some []
theorem coprime_In.mono_l : ∀ k, (∀ y0 y1 y2 y3 y4, LeO (coprime_In.l0 k y0 y1 y2 y3 y4) (coprime_In.l0 (k + 1) y0 y1 y2 y3 y4)) ∧ (∀ y0 y1 y2 y3 y4 y5, LeO (coprime_In.l1 k y0 y1 y2 y3 y4 y5) (coprime_In.l1 (k + 1) y0 y1 y2 y3 y4 y5))
  | 0 => ⟨fun _ _ _ _ _ r h => by simp [coprime_In.l0] at h, fun _ _ _ _ _ _ r h => by simp [coprime_In.l1] at h⟩
  | k + 1 => by
    obtain ⟨ih0, ih1⟩ := coprime_In.mono_l k
    refine ⟨?_, ?_⟩
    · intro y0 y1 y2 y3 y4
      unfold coprime_In.l0
      exact LeO.ite (ih1 _ _ _ _ _ _) (LeO.refl _)
    · intro y0 y1 y2 y3 y4 y5
      unfold coprime_In.l1
      exact LeO.ite (LeO.ite (LeO.refl _) (LeO.ite (ih1 _ _ _ _ _ _) (LeO.refl _))) (ih0 _ _ _ _ _)
theorem coprime_In.mono : ∀ a0 a1 k, LeO (coprime_In.f k a0 a1) (coprime_In.f (k + 1) a0 a1) := by
  intro a0 a1 k
  unfold coprime_In.f
  exact LeO.bind (LeO.refl _) fun _ => LeO.ite (LeO.bind (coprime_Fits.mono _ _ _) fun _ => LeO.ite (LeO.ite ((coprime_In.mono_l k).1 _ _ _ _ _) (LeO.refl _)) (LeO.refl _)) (LeO.refl _)

set_option maxHeartbeats 8000000 in
set_option maxRecDepth 100000 in
theorem coprime_In.calls (k : Nat) (a0 : Int) (a1 : Int) (r : List Int) (w : World) (h : coprime_In.f k a0 a1 = some r) :
    Calls Try.prog 11 #[.int .i64 a0, .int .i64 a1] w fun e w' => ∃ v0_ : Value, e = .returned (v0_) ∧ Kd.R (Kd.int .i64) 3 w' w.heap.size (fun _ => True) v0_ r ∧ Below w.heap.size w w' := by
  have HB := Aside0.mk (Below.refl w.heap.size w)
  unfold coprime_In.f at h
  obtain ⟨s, hs, h⟩ := Option.bind_eq_some_iff.mp h
  have HS := Aside0.mk hs
  clear hs
  obtain ⟨n9, hn9⟩ : ∃ z_ : Int, wrap64 (a0 * a1) = z_ := ⟨_, rfl⟩
  have hn9v : IntKind.i64.wrap (a0 * a1) = n9 := by simp only [i64_w]; exact hn9
  rw [hn9] at h
  cases s with
  | false =>
    rw [if_neg Bool.false_ne_true] at h
    obtain rfl := Option.some.inj h
    clear h
    go_enter Try.func11, Try.ntmps11
    go_wp2_with (first | (go_at_call 28; (with_reducible refine (coprime_small.calls a0 a1 false _ HS.out).mono ?_); rintro e w' ⟨rfl, ⟨nd, rfl⟩⟩))
    go_ret
    exact ⟨_, rfl, Kd.R_nil _ _ _ _ _, by repeat (first | exact HB.out | apply pw_below_drewN | apply below_drew1)⟩
  | true =>
    rw [if_pos rfl] at h
    obtain ⟨t, ht, h⟩ := Option.bind_eq_some_iff.mp h
    have HT := Aside0.mk ht
    clear ht
    cases t with
    | false =>
      rw [if_neg Bool.false_ne_true] at h
      obtain rfl := Option.some.inj h
      clear h
      go_enter Try.func11, Try.ntmps11
      go_wp2_with (first
        | (go_at_call 28; (with_reducible refine (coprime_small.calls a0 a1 true _ HS.out).mono ?_); rintro e w' ⟨rfl, ⟨nd, rfl⟩⟩)
        | (go_at_call 9; (with_reducible refine (coprime_Fits.calls k n9 a0 false _ HT.out).mono ?_); rintro e w' ⟨rfl, ⟨nd2, rfl⟩⟩))
      go_ret
      exact ⟨_, rfl, Kd.R_nil _ _ _ _ _, by repeat (first | exact HB.out | apply pw_below_drewN | apply below_drew1)⟩
    | true =>
      rw [if_pos rfl] at h
      by_cases c : 0 ≤ n9 ∧ n9 ≤ 1024
      · rw [if_pos c] at h
        have H' := Aside0.mk h
        have HC := Aside0.mk c
        clear h c
        obtain ⟨i3, e1, e2, e3, e4⟩ := info_parts info3
        have HI := Aside0.mk (And.intro e1 (And.intro e2 (And.intro e3 e4)))
        clear e1 e2 e3 e4
        go_enter Try.func11, Try.ntmps11
        go_wp2_with (first
          | (go_at_call 28; (with_reducible refine (coprime_small.calls a0 a1 true _ HS.out).mono ?_); rintro e w' ⟨rfl, ⟨nd, rfl⟩⟩)
          | (go_at_call 9; (with_reducible refine (coprime_Fits.calls k n9 a0 true _ HT.out).mono ?_); rintro e w' ⟨rfl, ⟨nd2, rfl⟩⟩)
          | ((with_reducible refine gate_dst (N := 23) rfl ?_); refine wpList_make_own _ rfl (.const (.int .i64 0)) (.tmp 22) 24 rfl w.heap.size 3 i3 (.int .i64 0) 1 Try.underlying24 HI.out.1 HI.out.2.1 HI.out.2.2.1 .i64 .i64 n9 n9.toNat rfl rfl (by have := HC.out; omega) (by rw [HI.out.2.2.2]; have := HC.out; omega) (by have := HC.out; unfold Go.maxLen; omega) (Nat.le_refl _) ?_; intro w7 hown hg; have n0_ : Aside0 (Below w.heap.size w w7) := ⟨(by repeat (first | exact HB.out | apply pw_below_drewN | apply below_drew1) : Below w.heap.size w _).grown hg (Nat.le_refl _) (fun k hk => by cases hk)⟩; have n1_ : Aside0 (Kd.R (Kd.int .i64) 3 w7 w.heap.size (fun _ => True) (.slice (some ⟨_, 0, none⟩) 0 n9.toNat) []) := ⟨⟨fun _ _ => trivial, [], hown, Reps.none _ _⟩⟩; clear HB; have HB := n0_; have HO := n1_; clear n0_ n1_ hown hg))
        clear HI
        go_loopg [6, 25] k (fun kq v6 v25 w' => ∃ (x6 : List Int) (x25 : Int), v25 = .int .i64 x25 ∧ Aside0 (coprime_In.l0 kq a0 a1 n9 x6 x25 = some r) ∧ Aside0 (kq ≤ k) ∧ Aside0 (Kd.R (Kd.int .i64) 3 w' w.heap.size (fun _ => True) v6 x6) ∧ Aside0 (Below w.heap.size w w'))
        case atStart => exact ⟨[], 0, rfl, H', ⟨Nat.le_refl _⟩, HO, HB⟩
        case round =>
          clear H' HO HB
          obtain ⟨x6, x25, rfl, HA, HK1, HO, HB⟩ := hrel
          cases gk with
          | zero => exact absurd HA.out (by simp [coprime_In.l0])
          | succ k1 =>
            have H := HA.out
            clear HA
            simp only [coprime_In.l0] at H
            by_cases c1 : x25 < a0
            · rw [if_pos c1] at H
              have c1b : decide (x25 < a0) = true := decide_eq_true c1
              have H' := Aside0.mk H
              clear H c1
              go_wp2
              go_loopg [6, 29] k1 (fun kq v6 v29 w' => ∃ (x6 : List Int) (x29 : Int), v29 = .int .i64 x29 ∧ Aside0 (coprime_In.l1 kq a0 a1 n9 x6 x25 x29 = some r) ∧ Aside0 (kq ≤ k1) ∧ Aside0 (Kd.R (Kd.int .i64) 3 w' w.heap.size (fun _ => True) v6 x6) ∧ Aside0 (Below w.heap.size w w'))
              case atStart => exact ⟨x6, 0, rfl, H', ⟨Nat.le_refl _⟩, HO, HB⟩
              case round =>
                clear H' HO HB c1b
                obtain ⟨x6, x29, rfl, HA, HK2, HO, HB⟩ := hrel
                cases gk with
                | zero => exact absurd HA.out (by simp [coprime_In.l1])
                | succ k2 =>
                  have H := HA.out
                  clear HA
                  simp only [coprime_In.l1] at H
                  by_cases c2 : x29 < a1
                  · rw [if_pos c2] at H
                    have c2b : decide (x29 < a1) = true := decide_eq_true c2
                    clear c2
                    by_cases c3 : n9 = 0
                    · rw [if_pos c3] at H
                      cases H
                    rw [if_neg c3] at H
                    have c3b : (n9 == 0) = false := beq_eq_false_iff_ne.mpr c3
                    by_cases c4 : x6.length < 17592186044416
                    · rw [if_pos c4] at H
                      have HL := Aside0.mk c4
                      obtain ⟨u9, hu9⟩ : ∃ z_ : Int, wrap64 (a1 * x25) = z_ := ⟨_, rfl⟩
                      have hu9v : IntKind.i64.wrap (a1 * x25) = u9 := by simp only [i64_w]; exact hu9
                      obtain ⟨v9, hv9⟩ : ∃ z_ : Int, wrap64 (a0 * x29) = z_ := ⟨_, rfl⟩
                      have hv9v : IntKind.i64.wrap (a0 * x29) = v9 := by simp only [i64_w]; exact hv9
                      obtain ⟨s9, hs9⟩ : ∃ z_ : Int, wrap64 (u9 + v9) = z_ := ⟨_, rfl⟩
                      have hs9v : IntKind.i64.wrap (u9 + v9) = s9 := by simp only [i64_w]; exact hs9
                      rw [hu9, hv9, hs9] at H
                      have H' := Aside0.mk H
                      clear H c4
                      go_wp2_with (first | ((with_reducible refine gate_builtin (b := .append) (xs := #[.tmp 32, .tmp 42]) rfl ?_); at_builtin; refine Kd.R_append (Kd.int .i64) (w0 := w) w.heap.size rfl (.tmp 32) (.tmp 42) 24 3 (.int .i64 0) 8 rfl Try.underlying24 info3 rfl (by decide) (by omega) u6 x6 (Int.tmod s9 n9) [.int .i64 (Int.tmod s9 n9)] (fun _ => True) (fun _ => False) rfl rfl ?aP (fun _ hk => hk.elim) ?aF ?aO ?aB ?aS ?aL ?_; (case aP => exact rfl); (case aB => exact HB.out); (case aF => exact (fun _ _ => trivial)); (case aO => exact HO.out); (case aS => exact below_size HB.out); (case aL => have := HL.out; omega); intro v211 w13 ho hb hg hat; have n0_ := Aside0.mk (hb); have n1_ := Aside0.mk (ho); clear HB; clear HO; have HB := n0_; have HO := n1_; clear n0_ n1_; clear ho hb hg hat))
                      go_roundg k2
                      case measure => have := HK1.out; have := HK2.out; omega
                      case rel => exact ⟨(x6 ++ [Int.tmod s9 n9]), (wrap64 (x29 + 1)), (by first | rfl | (simp; done) | (simp [*]; done)), H', ⟨by have := HK2.out; omega⟩, HO, HB⟩
                    · rw [if_neg c4] at H
                      cases H
                  · rw [if_neg c2] at H
                    have c2b : decide (x29 < a1) = false := decide_eq_false c2
                    have H' := Aside0.mk H
                    clear H c2
                    go_wp2
                    go_roundg k2
                    case measure => have := HK1.out; have := HK2.out; omega
                    case rel => exact ⟨x6, (wrap64 (x25 + 1)), (by first | rfl | (simp; done) | (simp [*]; done)), H', ⟨by have := HK1.out; have := HK2.out; omega⟩, HO, HB⟩
            · rw [if_neg c1] at H
              have c1b : decide (x25 < a0) = false := decide_eq_false c1
              obtain rfl := Option.some.inj H
              clear H c1
              go_wp2
              go_ret
              exact ⟨_, rfl, HO.out, HB.out⟩
      · rw [if_neg c] at h
        cases h

end Go.Proofs.Ytlpbfhbfaphicaa.XC
