/- Layer 15 (coprime): Out, walked by hand (a map whose keys are pairs). -/
import Derived.Test.YtlpbfhbfaphicaaIn15
import Derived.Maps.OwnSet
import Derived.Maps.OwnOps
import Derived.WideKeyPair
import Derived.StillTailTactics
namespace Go.Proofs.Ytlpbfhbfaphicaa.XC
open Go Go.RowKit Go.Maps Go.Proofs.YtlpbfhbfaphicaaW.PrintWords Go.Proofs.YtlpbfhbfaphicaaW.PrintLast Go.Proofs.YtlpbfhbfaphicaaW.PrintMore

set_option linter.unusedVariables false

/-- A number of 64 bits with a sign; pairs and what stands by them. -/
def W64 (x : Int) : Prop := -9223372036854775808 ≤ x ∧ x ≤ 9223372036854775807
instance (x : Int) : Decidable (W64 x) := by unfold W64; infer_instance
def lookM : List (Int × Int × Int) → Int → Int → Int
  | [], _, _ => 0
  | e :: t, i, j => if e.1 = i ∧ e.2.1 = j then e.2.2 else lookM t i j

theorem W64.wf {x : Int} (h : W64 x) : (Lit.int .i64 x).wf = true := by
  unfold W64 at h
  simp [Lit.wf, IntKind.min, IntKind.max, IntKind.bits, IntKind.signed]
  omega
theorem w64_wrap (x : Int) : W64 (IntKind.i64.wrap x) := by
  unfold W64
  simp only [i64_w]
  unfold wrap64
  omega

theorem pairArr : WideMaps.ArrKey Try.prog 61 3 2 := ⟨Try.underlying61, by kernel_rfl, by kernel_rfl, by kernel_rfl⟩
theorem pairKeyed : Keyed Try.prog 61 := Keyed.of_law pairArr.law
theorem pairSize : ∃ m, Try.prog.types.size = m + 1 := ⟨Try.prog.types.size - 1, by kernel_rfl⟩
abbrev kl (i j : Int) : Lit := .string (keyBytes [.int .i64 i, .int .i64 j])
theorem keyOf_kl {i j : Int} (hi : W64 i) (hj : W64 j) : keyOf Try.prog 61 (.agg #[.int .i64 i, .int .i64 j]) = some (kl i j) := WideMaps.keyOf_pair pairArr Try.underlying3 pairSize hi.wf hj.wf
theorem kl_ne {i j i' j' : Int} (hi : W64 i) (hj : W64 j) (hi' : W64 i') (hj' : W64 j') (h : ¬ (i = i' ∧ j = j')) : kl i' j' ≠ kl i j := by
  intro e
  have h1 := keyOf_kl hi hj
  have h2 := keyOf_kl hi' hj'
  rw [e] at h2
  have := pairKeyed.inj h1 h2
  injection this with this
  have := congrArg Array.toList this
  simp at this
  exact h this

/-- Block b is a map of these pairs. -/
def MapP (w : World) (b : Nat) (M : List (Int × Int × Int)) : Prop :=
  ∃ (D : DataW Value) (n : Nat), w.ownsMap Try.prog 61 (plainElem Try.prog 3) b n D ∧ n ≤ M.length ∧ ∀ i j, W64 i → W64 j → D.atKey (kl i j) (.lit (.int .i64 0)) = .lit (.int .i64 (lookM M i j))
theorem MapP.lt {w : World} {b : Nat} {M : List (Int × Int × Int)} (h : MapP w b M) : b < w.heap.size := by
  obtain ⟨D, n, ho, _⟩ := h
  exact ho.lt
theorem MapP.made (w : World) : MapP (w.alloc (.map #[] 0)) w.heap.size [] := ⟨_, 0, World.ownsMap_made w _ _ _, Nat.le_refl _, fun _ _ _ _ => rfl⟩
theorem MapP.grown {w w' : World} {b : Nat} {M : List (Int × Int × Int)} {row : Option Nat} (h : MapP w b M) (hg : w.grownBy w' row) (hne : some b ≠ row) : MapP w' b M := by
  obtain ⟨D, n, ho, hn, hh⟩ := h
  exact ⟨D, n, ho.kept hg hne, hn, hh⟩
theorem MapP.put {w w' : World} {b n : Nat} {D : DataW Value} {M : List (Int × Int × Int)} {i j v : Int} (ho : w.ownsMap Try.prog 61 (plainElem Try.prog 3) b n D) (hn : n ≤ M.length)
    (hh : ∀ i j, W64 i → W64 j → D.atKey (kl i j) (.lit (.int .i64 0)) = .lit (.int .i64 (lookM M i j))) (hi : W64 i) (hj : W64 j)
    (ho' : w'.ownsMap Try.prog 61 (plainElem Try.prog 3) b (n + 1) (D.put (kl i j) (.lit (.int .i64 v)))) : MapP w' b ((i, j, v) :: M) := by
  refine ⟨_, n + 1, ho', by simpa using hn, fun i' j' hi' hj' => ?_⟩
  by_cases c : i = i' ∧ j = j'
  · obtain ⟨rfl, rfl⟩ := c
    rw [Maps.atKey_put_same ho.isMap (show WideAt.IsKeyLit (kl i j) from trivial)]
    simp [lookM]
  · rw [Maps.atKey_put_other (kl_ne hi hj hi' hj' c), hh i' j' hi' hj']
    have e : lookM ((i, j, v) :: M) i' j' = lookM M i' j' := by
      show (if i = i' ∧ j = j' then v else lookM M i' j') = _
      rw [if_neg c]
    rw [e]
theorem zeroI (w : World) : (zeroValue 3).run Try.prog w = .ok (.int .i64 0) w := by kernel_rfl
theorem MapP.look {w : World} {b : Nat} {M : List (Int × Int × Int)} {i j : Int} (h : MapP w b M) (hi : W64 i) (hj : W64 j) :
    (Instr.lookup 59 (.map (some b)) (.agg #[.int .i64 i, .int .i64 j]) false).run Try.prog w = .ok (.int .i64 (lookM M i j)) w := by
  obtain ⟨D, n, ho, hn, hh⟩ := h
  obtain ⟨c, hrun, hat, _⟩ := ho.lookup_int pairKeyed Try.underlying59 Try.underlying3 (zeroI w) (keyOf_kl hi hj)
  rw [hh i j hi hj] at hat
  have e : lookM M i j = c := (Lit.int.inj (DataW.lit.inj hat)).2
  rw [e]; exact hrun

mutual
noncomputable def coprime_Out.l0 : Nat → Int → Int → Int → List (Int × Int × Int) → Int → Option (List Int)
  | 0, _, _, _, _, _ => none
  | k + 1, a, b, n, M, x26 => if x26 < a then coprime_Out.l1 k a b n M x26 0 else if 0 ≤ n ∧ n ≤ 1024 then coprime_Out.l2 k a b (n.toNat : Int) M (List.replicate n.toNat 0) 0 else none
noncomputable def coprime_Out.l1 : Nat → Int → Int → Int → List (Int × Int × Int) → Int → Int → Option (List Int)
  | 0, _, _, _, _, _, _ => none
  | k + 1, a, b, n, M, x26, x30 => if x30 < b then (if M.length < 17592186044416 ∧ W64 x26 ∧ W64 x30 then coprime_Out.l1 k a b n ((x26, x30, wrap64 (wrap64 (x26 * b) + x30)) :: M) x26 (wrap64 (x30 + 1)) else none) else coprime_Out.l0 k a b n M (wrap64 (x26 + 1))
noncomputable def coprime_Out.l2 : Nat → Int → Int → Int → List (Int × Int × Int) → List Int → Int → Option (List Int)
  | 0, _, _, _, _, _, _ => none
  | k + 1, a, b, L, M, out, x48 => if x48 < L then (if (a ≠ 0 ∧ b ≠ 0) ∧ (0 ≤ x48 ∧ x48 < (out.length : Int)) ∧ W64 (Int.tmod x48 a) ∧ W64 (Int.tmod x48 b) then coprime_Out.l2 k a b L M (out.set x48.toNat (lookM M (Int.tmod x48 a) (Int.tmod x48 b))) (wrap64 (x48 + 1)) else none) else some out
end
noncomputable def coprime_Out.f (k : Nat) (a b : Int) : Option (List Int) := (coprime_small.f a b).bind fun s => if s = true then ((coprime_Fits.f k (wrap64 (a * b)) a).bind fun t => if t = true then coprime_Out.l0 k a b (wrap64 (a * b)) [] 0 else some []) else some []
theorem coprime_Out.mono_l : ∀ k, (∀ y0 y1 y2 y3 y4, LeO (coprime_Out.l0 k y0 y1 y2 y3 y4) (coprime_Out.l0 (k + 1) y0 y1 y2 y3 y4)) ∧ (∀ y0 y1 y2 y3 y4 y5, LeO (coprime_Out.l1 k y0 y1 y2 y3 y4 y5) (coprime_Out.l1 (k + 1) y0 y1 y2 y3 y4 y5)) ∧ (∀ y0 y1 y2 y3 y4 y5, LeO (coprime_Out.l2 k y0 y1 y2 y3 y4 y5) (coprime_Out.l2 (k + 1) y0 y1 y2 y3 y4 y5))
  | 0 => ⟨fun _ _ _ _ _ r h => by simp [coprime_Out.l0] at h, fun _ _ _ _ _ _ r h => by simp [coprime_Out.l1] at h, fun _ _ _ _ _ _ r h => by simp [coprime_Out.l2] at h⟩
  | k + 1 => by
    obtain ⟨ih0, ih1, ih2⟩ := coprime_Out.mono_l k
    refine ⟨?_, ?_, ?_⟩
    · intro y0 y1 y2 y3 y4
      unfold coprime_Out.l0
      exact LeO.ite (ih1 _ _ _ _ _ _) (LeO.ite (ih2 _ _ _ _ _ _) (LeO.refl _))
    · intro y0 y1 y2 y3 y4 y5
      unfold coprime_Out.l1
      exact LeO.ite (LeO.ite (ih1 _ _ _ _ _ _) (LeO.refl _)) (ih0 _ _ _ _ _)
    · intro y0 y1 y2 y3 y4 y5
      unfold coprime_Out.l2
      exact LeO.ite (LeO.ite (ih2 _ _ _ _ _ _) (LeO.refl _)) (LeO.refl _)
theorem coprime_Out.mono : ∀ a0 a1 k, LeO (coprime_Out.f k a0 a1) (coprime_Out.f (k + 1) a0 a1) := by
  intro a0 a1 k
  unfold coprime_Out.f
  exact LeO.bind (LeO.refl _) fun _ => LeO.ite (LeO.bind (coprime_Fits.mono _ _ _) fun _ => LeO.ite ((coprime_Out.mono_l k).1 _ _ _ _ _) (LeO.refl _)) (LeO.refl _)

set_option maxHeartbeats 8000000 in
set_option maxRecDepth 100000 in
theorem coprime_Out.calls (k : Nat) (a0 : Int) (a1 : Int) (r : List Int) (w : World) (h : coprime_Out.f k a0 a1 = some r) :
    Calls Try.prog 12 #[.int .i64 a0, .int .i64 a1] w fun e w' => ∃ v0_ : Value, e = .returned (v0_) ∧ Kd.R (Kd.int .i64) 3 w' w.heap.size (fun _ => True) v0_ r ∧ Below w.heap.size w w' := by
  have HB := Aside0.mk (Below.refl w.heap.size w)
  unfold coprime_Out.f at h
  obtain ⟨s, hs, h⟩ := Option.bind_eq_some_iff.mp h
  have HS := Aside0.mk hs
  clear hs
  obtain ⟨n9, hn9⟩ : ∃ z_ : Int, wrap64 (a0 * a1) = z_ := ⟨_, rfl⟩
  have hn9v : IntKind.i64.wrap (a0 * a1) = n9 := by simp only [i64_w]; exact hn9
  rw [hn9] at h
  cases s with
  | false =>
    rw [if_neg Bool.false_ne_true] at h
    obtain rfl := Option.some.inj h
    clear h
    go_enter Try.func12, Try.ntmps12
    go_wp2_with (first | (go_at_call 28; (with_reducible refine (coprime_small.calls a0 a1 false _ HS.out).mono ?_); rintro e w' ⟨rfl, ⟨nd, rfl⟩⟩))
    go_ret
    exact ⟨_, rfl, Kd.R_nil _ _ _ _ _, by repeat (first | exact HB.out | apply pw_below_drewN | apply below_drew1)⟩
  | true =>
    rw [if_pos rfl] at h
    obtain ⟨t, ht, h⟩ := Option.bind_eq_some_iff.mp h
    have HT := Aside0.mk ht
    clear ht
    cases t with
    | false =>
      rw [if_neg Bool.false_ne_true] at h
      obtain rfl := Option.some.inj h
      clear h
      go_enter Try.func12, Try.ntmps12
      go_wp2_with (first
        | (go_at_call 28; (with_reducible refine (coprime_small.calls a0 a1 true _ HS.out).mono ?_); rintro e w' ⟨rfl, ⟨nd, rfl⟩⟩)
        | (go_at_call 9; (with_reducible refine (coprime_Fits.calls k n9 a0 false _ HT.out).mono ?_); rintro e w' ⟨rfl, ⟨nd2, rfl⟩⟩))
      go_ret
      exact ⟨_, rfl, Kd.R_nil _ _ _ _ _, by repeat (first | exact HB.out | apply pw_below_drewN | apply below_drew1)⟩
    | true =>
      rw [if_pos rfl] at h
      have H' := Aside0.mk h
      clear h
      have hmm := @run_makeMap Try.prog
      go_enter Try.func12, Try.ntmps12
      go_wp2_with (first
        | (go_at_call 28; (with_reducible refine (coprime_small.calls a0 a1 true _ HS.out).mono ?_); rintro e w' ⟨rfl, ⟨nd, rfl⟩⟩)
        | (go_at_call 9; (with_reducible refine (coprime_Fits.calls k n9 a0 true _ HT.out).mono ?_); rintro e w' ⟨rfl, ⟨nd2, rfl⟩⟩))
      clear hmm
      go_loopg [26] k (fun kq v26 w' => ∃ (M : List (Int × Int × Int)) (x26 : Int), v26 = .int .i64 x26 ∧ Aside0 (coprime_Out.l0 kq a0 a1 n9 M x26 = some r) ∧ Aside0 (kq ≤ k) ∧ Aside0 (MapP w' w.heap.size M) ∧ Aside0 (Below w.heap.size w w'))
      case atStart => exact ⟨[], 0, rfl, H', ⟨Nat.le_refl _⟩, ⟨MapP.made ((w.drewN nd).drewN nd2)⟩, ⟨below_alloc (by repeat (first | exact HB.out | apply pw_below_drewN | apply below_drew1)) _⟩⟩
      case round =>
        clear H' HB
        obtain ⟨M, x26, rfl, HA, HK1, HM, HB⟩ := hrel
        cases gk with
        | zero => exact absurd HA.out (by simp [coprime_Out.l0])
        | succ k1 =>
          have H := HA.out
          clear HA
          simp only [coprime_Out.l0] at H
          by_cases c1 : x26 < a0
          · rw [if_pos c1] at H
            have c1b : decide (x26 < a0) = true := decide_eq_true c1
            have H' := Aside0.mk H
            clear H c1
            go_wp2
            go_loopg [30] k1 (fun kq v30 w' => ∃ (M : List (Int × Int × Int)) (x30 : Int), v30 = .int .i64 x30 ∧ Aside0 (coprime_Out.l1 kq a0 a1 n9 M x26 x30 = some r) ∧ Aside0 (kq ≤ k1) ∧ Aside0 (MapP w' w.heap.size M) ∧ Aside0 (Below w.heap.size w w'))
            case atStart => exact ⟨M, 0, rfl, H', ⟨Nat.le_refl _⟩, HM, HB⟩
            case round =>
              clear H' HM HB c1b
              obtain ⟨M, x30, rfl, HA, HK2, HM, HB⟩ := hrel
              cases gk with
              | zero => exact absurd HA.out (by simp [coprime_Out.l1])
              | succ k2 =>
                have H := HA.out
                clear HA
                simp only [coprime_Out.l1] at H
                by_cases c2 : x30 < a1
                · rw [if_pos c2] at H
                  have c2b : decide (x30 < a1) = true := decide_eq_true c2
                  clear c2
                  by_cases c3 : M.length < 17592186044416 ∧ W64 x26 ∧ W64 x30
                  · rw [if_pos c3] at H
                    obtain ⟨u9, hu9⟩ : ∃ z_ : Int, wrap64 (x26 * a1) = z_ := ⟨_, rfl⟩
                    have hu9v : IntKind.i64.wrap (x26 * a1) = u9 := by simp only [i64_w]; exact hu9
                    obtain ⟨s9, hs9⟩ : ∃ z_ : Int, wrap64 (u9 + x30) = z_ := ⟨_, rfl⟩
                    have hs9v : IntKind.i64.wrap (u9 + x30) = s9 := by simp only [i64_w]; exact hs9
                    have HWS : Aside0 (W64 s9) := ⟨by rw [← hs9v]; exact w64_wrap _⟩
                    rw [hu9, hs9] at H
                    have H' := Aside0.mk H
                    have HC := Aside0.mk c3
                    clear H c3
                    go_wp2_with (first | (at_mapUpdate; obtain ⟨D, n, ho, hn, hh⟩ := HM.out; have HN := Aside0.mk hn; have HH := Aside0.mk hh; have HOO := Aside0.mk ho; (refine wpList_mapUpdate_own _ rfl _ _ _ 59 rfl 61 3 pairKeyed Try.underlying59 (plainElem Try.prog 3) w.heap.size n D rfl ho ?hnmax _ _ (kl x26 x30) rfl rfl (keyOf_kl HC.out.2.1 HC.out.2.2) (.lit (.int .i64 s9)) [] (plainElem_int Try.underlying3 HWS.out.wf) ?_); (case hnmax => have := HC.out.1; unfold maxLen; omega); intro w5 ho5 hg5; have HM5 := Aside0.mk (MapP.put (M := M) HOO.out HN.out HH.out HC.out.2.1 HC.out.2.2 ho5); have HB5 : Aside0 (Below w.heap.size w w5) := ⟨HB.out.grown hg5 HB.out.size (fun q e => by cases e; exact Nat.le_refl _)⟩; clear ho hn hh ho5 hg5))
                    go_roundg k2
                    case measure => have := HK1.out; have := HK2.out; omega
                    case rel => exact ⟨((x26, x30, s9) :: M), (wrap64 (x30 + 1)), (by first | rfl | (simp; done) | (simp [*]; done)), H', ⟨by have := HK2.out; omega⟩, HM5, HB5⟩
                  · rw [if_neg c3] at H
                    cases H
                · rw [if_neg c2] at H
                  have c2b : decide (x30 < a1) = false := decide_eq_false c2
                  have H' := Aside0.mk H
                  clear H c2
                  go_wp2
                  go_roundg k2
                  case measure => have := HK1.out; have := HK2.out; omega
                  case rel => exact ⟨M, (wrap64 (x26 + 1)), (by first | rfl | (simp; done) | (simp [*]; done)), H', ⟨by have := HK1.out; have := HK2.out; omega⟩, HM, HB⟩
          · rw [if_neg c1] at H
            have c1b : decide (x26 < a0) = false := decide_eq_false c1
            by_cases c : 0 ≤ n9 ∧ n9 ≤ 1024
            · rw [if_pos c] at H
              have H' := Aside0.mk H
              have HC := Aside0.mk c
              clear H c c1
              obtain ⟨y9, hy9⟩ : ∃ y_ : List Int, y_ = (List.replicate n9.toNat 0) := ⟨_, rfl⟩
              have HY : Aside0 (y9.length = n9.toNat) := ⟨by rw [hy9]; exact List.length_replicate⟩
              have Ny := Aside0.mk hy9
              clear hy9
              go_wp2_with (first | ((with_reducible refine gate_dst (N := 45) rfl ?_); refine Kd.R_make (Kd.int .i64) _ 3 rfl (N := 45) rfl 24 _ _ rfl n9 rfl rfl Try.underlying24 (.int .i64 0) 8 info3 rfl (by decide) (by omega) 0 (ok := fun _ => True) (okp := fun _ => True) rfl (fun _ hk => hk) trivial HC.out.1 (by have := HC.out; omega) (Below.refl _ _) (Nat.le_refl _) ?_; intro v147 w11 ho12 hb hg_ hnew_; clear hg_ hnew_; rw [← Ny.out] at ho12; have n0_ : Aside0 (Kd.R (Kd.int .i64) 3 w11 w.heap.size (fun k => k ≠ w.heap.size) v147 y9) := ⟨Kd.R_lower (Kd.R_mono (Kd.R_bound ho12) fun k hk => by have := hk.2.1; have := HM.out.lt; omega) HB.out.size⟩; have n1_ : Aside0 (MapP w11 w.heap.size M) := ⟨HM.out.grown (row := none) ⟨hb.os, hb.tape, hb.output, hb.size, fun k hk _ => hb.block k hk⟩ (by simp)⟩; have n2_ : Aside0 (Below w.heap.size w w11) := ⟨below_step HB.out hb⟩; clear HB HM; have HO := n0_; have HM := n1_; have HB := n2_; clear n0_ n1_ n2_; clear hb ho12; obtain ⟨Ao, co, eo⟩ := Kd.R_slice HO.out; subst eo))
              rw [← Ny.out] at H'
              rw [← HY.out] at H'
              go_loopg [48] k1 (fun kq v48 w' => ∃ (out : List Int) (x48 : Int), v48 = .int .i64 x48 ∧ Aside0 (coprime_Out.l2 kq a0 a1 (y9.length : Int) M out x48 = some r) ∧ Aside0 (kq ≤ k1) ∧ Aside0 (out.length = y9.length) ∧ Aside0 (Kd.R (Kd.int .i64) 3 w' w.heap.size (fun k => k ≠ w.heap.size) (.slice Ao y9.length co) out) ∧ Aside0 (MapP w' w.heap.size M) ∧ Aside0 (Below w.heap.size w w'))
              case atStart => exact ⟨y9, 0, rfl, H', ⟨Nat.le_refl _⟩, ⟨rfl⟩, HO, HM, HB⟩
              case round =>
                clear H' HO HM HB c1b
                obtain ⟨out, x48, rfl, HA, HK2, HLn, HO, HM, HB⟩ := hrel
                cases gk with
                | zero => exact absurd HA.out (by simp [coprime_Out.l2])
                | succ k2 =>
                  have H := HA.out
                  clear HA
                  simp only [coprime_Out.l2] at H
                  by_cases c2 : x48 < (y9.length : Int)
                  · rw [if_pos c2] at H
                    have c2b : decide (x48 < (y9.length : Int)) = true := decide_eq_true c2
                    by_cases c3 : (a0 ≠ 0 ∧ a1 ≠ 0) ∧ (0 ≤ x48 ∧ x48 < (out.length : Int)) ∧ W64 (Int.tmod x48 a0) ∧ W64 (Int.tmod x48 a1)
                    · rw [if_pos c3] at H
                      have H' := Aside0.mk H
                      clear H
                      obtain ⟨⟨d0, d1⟩, ⟨p20, q20⟩, hwa, hwb⟩ := c3
                      have d0b : (a0 == 0) = false := beq_eq_false_iff_ne.mpr d0
                      have d1b : (a1 == 0) = false := beq_eq_false_iff_ne.mpr d1
                      obtain ⟨m0, hm0⟩ : ∃ z_ : Int, Int.tmod x48 a0 = z_ := ⟨_, rfl⟩
                      obtain ⟨m1, hm1⟩ : ∃ z_ : Int, Int.tmod x48 a1 = z_ := ⟨_, rfl⟩
                      rw [hm0] at hwa H'
                      rw [hm1] at hwb H'
                      obtain ⟨go20, co20, eo20, gb20, gl20, cl20, HG20⟩ := Kd.R_form HO.out (by omega)
                      (first | cases eo20 | (injection eo20 with ea_ en_ ec_; (first | subst ea_ | (injection ea_ with ea_; subst ea_)); subst ec_; clear en_))
                      have GB20 := Aside0.mk gb20
                      clear gb20 gl20 HG20
                      have GN := Aside0.mk (HO.out.1 _ rfl)
                      have hlk : (Instr.lookup 59 (.map (some w.heap.size)) (.agg #[.int .i64 m0, .int .i64 m1]) false).run Try.prog wr.drew = .ok (.int .i64 (lookM M m0 m1)) wr.drew := MapP.look (HM.out.grown (row := none) ⟨rfl, rfl, rfl, Nat.le_refl _, fun _ _ _ => rfl⟩ (by simp)) hwa hwb
                      have n0_ : Aside0 (Kd.R (Kd.int .i64) 3 wr.drew w.heap.size (fun k => k ≠ w.heap.size) (.slice (some ⟨go20, 0, none⟩) y9.length co) out) := ⟨by first | exact Kd.R_drew HO.out | exact HO.out⟩
                      have n1_ : Aside0 (MapP wr.drew w.heap.size M) := ⟨HM.out.grown (row := none) ⟨rfl, rfl, rfl, Nat.le_refl _, fun _ _ _ => rfl⟩ (by simp)⟩
                      have n2_ : Aside0 (Below w.heap.size w wr.drew) := ⟨by repeat (first | exact HB.out | apply pw_below_drewN | apply below_drew1)⟩
                      clear HO HM HB
                      have HO := n0_
                      have HM := n1_
                      have HB := n2_
                      clear n0_ n1_ n2_
                      obtain ⟨y8, hy8⟩ : ∃ y_ : List Int, y_ = out.set x48.toNat (lookM M m0 m1) := ⟨_, rfl⟩
                      rw [← hy8] at H'
                      have Ny8 := Aside0.mk hy8
                      clear hy8
                      have C2 := Aside0.mk c2
                      have P20 := Aside0.mk p20
                      clear c2 q20 hwa hwb p20
                      go_wp2
                      go_still_tail 11, (by kernel_rfl)
                      change wpList _ _ _ _ _ wr.drew
                      generalize wr.drew = w2 at hlk HO HM HB
                      obtain ⟨hx20_0, hf20_0⟩ := Kd.R_celln 0 HO.out x48 P20.out C2.out
                      have HP22 := Kd.R_putg HO.out x48 (lookM M m0 m1)
                      have p20b := eq_true P20.out
                      have q20b := eq_true C2.out
                      go_wp2_with (first | ((with_reducible refine gate_store (t := 3) (p := 62) rfl ?_); refine store_event (t := 3) (p := 62) (v := ?vo_w23) (w1 := (w2.setCell ⟨go20, x48.toNat, none⟩ (.int .i64 (lookM M m0 m1)))) ?hg ?ho ?hn ?hr ?_; (case ho => rfl); (case hg => rfl); (case hn => rfl); (case hr => first | (go_simp; done) | (go_simp; rfl)); intro w23 hw; have hg : w2.grownBy w23 (some go20) := (by rw [hw]; exact HP22.2); have n0_ : Aside0 (Kd.R (Kd.int .i64) 3 w23 w.heap.size (fun k => k ≠ w.heap.size) (.slice (some ⟨go20, 0, none⟩) y9.length co) y8) := ⟨by rw [hw, Ny8.out]; exact HP22.1⟩; clear HP22; have n1_ : Aside0 (MapP w23 w.heap.size M) := ⟨HM.out.grown hg (fun e => GN.out (by injection e with e; exact e.symm))⟩; have n2_ : Aside0 (Below w.heap.size w w23) := ⟨by rw [hw]; exact below_set HB.out GB20.out⟩; clear HO HM HB hg hw hlk hx20_0 hf20_0; have HO := n0_; have HM := n1_; have HB := n2_; clear n0_ n1_ n2_))
                      have HL8 : Aside0 (y8.length = y9.length) := ⟨by rw [Ny8.out, List.length_set]; exact HLn.out⟩
                      go_roundg k2
                      case measure => have := HK1.out; have := HK2.out; omega
                      case rel => exact ⟨y8, (wrap64 (x48 + 1)), (by first | rfl | (simp; done) | (simp [*]; done)), H', ⟨by have := HK2.out; omega⟩, HL8, HO, HM, HB⟩
                    · rw [if_neg c3] at H
                      cases H
                  · rw [if_neg c2] at H
                    have c2b : decide (x48 < (y9.length : Int)) = false := decide_eq_false c2
                    obtain rfl := Option.some.inj H
                    clear H c2
                    go_wp2
                    go_ret
                    exact ⟨_, rfl, Kd.R_mono HO.out (fun _ _ => trivial), HB.out⟩
            · rw [if_neg c] at H
              cases H

end Go.Proofs.Ytlpbfhbfaphicaa.XC
