/- Layer 19 (cache): the document's At and New, walked. -/
import Derived.Test.YtlpbfhbfaphicaaRef19
namespace Go.Proofs.Ytlpbfhbfaphicaa.C19
open Go Go.RowKit Go.Maps Go.Lib Go.Sort Go.Proofs.YtlpbfhbfaphicaaW.PrintWords Go.Proofs.YtlpbfhbfaphicaaW.PrintLast Go.Proofs.YtlpbfhbfaphicaaW.PrintMore Go.Proofs.Ytlpbfhbfaphicaa.XA

set_option linter.unusedVariables false
attribute [local go_sem high] eqA37
attribute [local go_sem] max2_int min2_int max_two min_two max_three min_three max_four min_four
def BoxR (w : World) (g : Nat) (x : K3) : Prop := w.heap[g]? = some (.cells (kc x).toArray 37 (0, 0))
theorem BoxR.cells {w : World} {g : Nat} {x : K3} (h : BoxR w g x) : w.cell? ⟨g, 0, none⟩ = some (.int .u64 x.f0) ∧ w.cell? ⟨g, 1, none⟩ = some (.int .i64 x.f1) ∧ w.cell? ⟨g, 2, none⟩ = some (.int .i64 x.f2) := ⟨(blk_cell h 0).trans rfl, (blk_cell h 1).trans rfl, (blk_cell h 2).trans rfl⟩
theorem BoxR.kept {w w1 : World} {g : Nat} {x : K3} {ok : Nat → Prop} (h : BoxR w g x) (hk : Kept ok w w1) (hg : ¬ ok g) : BoxR w1 g x := (hk.block g (blk_lt h) hg).trans h
theorem BoxR.below {w w1 : World} {g : Nat} {x : K3} (h : BoxR w g x) (hb : Below w.heap.size w w1) : BoxR w1 g x := blk_below h hb
def BoxP (w : World) (g : Nat) (x : Pr) : Prop := w.heap[g]? = some (.cells (pc x).toArray 70 (0, 0))
theorem BoxP.cells {w : World} {g : Nat} {x : Pr} (h : BoxP w g x) : w.cell? ⟨g, 0, none⟩ = some (.int .u64 x.1.f0) ∧ w.cell? ⟨g, 1, none⟩ = some (.int .i64 x.1.f1) ∧ w.cell? ⟨g, 2, none⟩ = some (.int .i64 x.1.f2) ∧ w.cell? ⟨g, 3, none⟩ = some (.int .i64 x.2) := ⟨(blk_cell h 0).trans rfl, (blk_cell h 1).trans rfl, (blk_cell h 2).trans rfl, (blk_cell h 3).trans rfl⟩
theorem BoxP.kept {w w1 : World} {g : Nat} {x : Pr} {ok : Nat → Prop} (h : BoxP w g x) (hk : Kept ok w w1) (hg : ¬ ok g) : BoxP w1 g x := (hk.block g (blk_lt h) hg).trans h
theorem BoxP.below {w w1 : World} {g : Nat} {x : Pr} (h : BoxP w g x) (hb : Below w.heap.size w w1) : BoxP w1 g x := blk_below h hb
def AtR (l : List Pr) (k : K3) (r : Int) : Prop := (∃ i : Nat, r = (i : Int) ∧ i < l.length ∧ (pat l i).1 = k ∧ ∀ j, j < i → (pat l j).1 ≠ k) ∨ (r = -1 ∧ ∀ j, j < l.length → (pat l j).1 ≠ k)
theorem k3_eq {x y : K3} (h : x = y) : (x.f0 == y.f0 && (x.f1 == y.f1 && x.f2 == y.f2)) = true := by rw [h]; simp
theorem k3_ne {x y : K3} (h : x ≠ y) : (x.f0 == y.f0 && (x.f1 == y.f1 && x.f2 == y.f2)) = false := by
  rw [Bool.eq_false_iff]
  intro e
  simp only [Bool.and_eq_true, beq_iff_eq] at e
  apply h
  cases x; cases y
  simp at e
  simp [e]
set_option maxHeartbeats 4000000 in
set_option maxRecDepth 100000 in
theorem at_calls {w : World} {base g : Nat} {ok : Nat → Prop} {room : Int} {v : Value} {l : List Pr} {k : K3} {r : Int} (H : CRef w base ok g room v l) (hl : l.length ≤ 1000) (hr : AtR l k r) :
    Calls Try.prog 31 #[.pointer (some ⟨g, 0, none⟩), kv k] w fun e w' => e = .returned (.int .i64 r) ∧ Below w.heap.size w w' := by
  obtain ⟨A, c0, hv⟩ := Kd.R_slice H.row.R
  subst hv
  have HH := Aside0.mk H
  have HL := Aside0.mk hl
  have HR := Aside0.mk hr
  clear H hl hr
  go_enter Try.func31, Try.ntmps31
  go_upto_region 1 with (fail)
  have hb0 : Below w.heap.size w (w.alloc (.cells (kc k).toArray 37 (0, 0))) := below_alloc (Below.refl _ _) _
  have HC : Aside0 (CRef (w.alloc (.cells (kc k).toArray 37 (0, 0))) base ok g room (.slice A l.length c0) l) := ⟨HH.out.below hb0⟩
  have HK : Aside0 (BoxR (w.alloc (.cells (kc k).toArray 37 (0, 0))) w.heap.size k) := ⟨blk_new _ _⟩
  have HB0 : Aside0 (Below w.heap.size w (w.alloc (.cells (kc k).toArray 37 (0, 0)))) := ⟨hb0⟩
  clear hb0 HH
  generalize (w.alloc (Obj.cells #[.int .u64 k.f0, .int .i64 k.f1, .int .i64 k.f2] 37)) = W0 at HC HK HB0 ⊢
  have HRC : Aside0 (Kd.C kP W0 A l.length l) := ⟨(Kd.R_reads' HC.out.row.R).2.2⟩
  obtain ⟨_, xc1, _⟩ := HC.out.cells
  go_upto_region 2 with (fail)
  clear xc1 HC
  go_loopg [12] (l.length + 1) (fun kq v12 w' => ∃ i : Nat, v12 = .int .i64 (i : Int) ∧ Aside0 (i ≤ l.length ∧ i + kq = l.length + 1 ∧ ∀ j, j < i → (pat l j).1 ≠ k) ∧ Aside0 (Below W0.heap.size W0 w'))
  case atStart => exact ⟨0, rfl, ⟨Nat.zero_le _, Nat.zero_add _, fun j hj => absurd hj (Nat.not_lt_zero _)⟩, ⟨Below.refl _ _⟩⟩
  case round =>
    obtain ⟨i, rfl, HI, HB⟩ := hrel
    have hik := HI.out.2.1
    by_cases hi : i < l.length
    · have cb : decide (i < l.length) = true := decide_eq_true hi
      have cbi : (i : Int) < (l.length : Int) := by omega
      have cb0 : (0 : Int) ≤ (i : Int) := by omega
      obtain ⟨k1, rfl⟩ : ∃ k1, gk = k1 + 1 := ⟨gk - 1, by omega⟩
      have wi : IntKind.i64.wrap ((i : Int) + 1) = ((i + 1 : Nat) : Int) := by have := HL.out; rw [i64_w]; unfold wrap64; omega
      obtain ⟨ad, rfl, xs0, xs1, xs2, xs3⟩ := at_P (Kd.C_below HRC.out HB.out) i hi
      obtain ⟨p, hpd⟩ : ∃ p, pat l i = p := ⟨_, rfl⟩
      rw [hpd] at xs0 xs1 xs2 xs3
      have HPD := Aside0.mk hpd
      have HIL := Aside0.mk hi
      have HIK : Aside0 (i + 1 + k1 = l.length + 1) := ⟨by omega⟩
      clear hik hi hpd
      go_upto_region 4 with (fail)
      have hb1 : Below W0.heap.size W0 (wr.alloc (.cells (pc p).toArray 70 (0, 0))) := below_step HB.out (below_alloc (Below.refl _ _) _)
      have HB1 := Aside0.mk hb1
      have HX : Aside0 (BoxP (wr.alloc (.cells (pc p).toArray 70 (0, 0))) wr.heap.size p) := ⟨blk_new _ _⟩
      clear hb1 xs0 xs1 xs2 xs3
      generalize (wr.alloc (Obj.cells #[.int .u64 p.1.f0, .int .i64 p.1.f1, .int .i64 p.1.f2, .int .i64 p.2] 70)) = W1 at HB1 HX ⊢
      obtain ⟨xp0, xp1, xp2, xp3⟩ := HX.out.cells
      obtain ⟨xk0, xk1, xk2⟩ := (HK.out.below HB1.out).cells
      by_cases hk : p.1 = k
      · have he := k3_eq hk
        have hri : r = (i : Int) := by
          rcases HR.out with ⟨i', e, h1, h2, h3⟩ | ⟨_, h3⟩
          · rcases Nat.lt_trichotomy i i' with c | c | c
            · exact absurd (by rw [HPD.out]; exact hk) (h3 i c)
            · rw [e, c]
            · exact absurd h2 (HI.out.2.2 i' c)
          · exact absurd (by rw [HPD.out]; exact hk) (h3 i HIL.out)
        have HRI := Aside0.mk hri
        clear hk hri
        go_wp2
        go_ret
        exact ⟨by rw [HRI.out]; rfl, below_step HB0.out HB1.out⟩
      · have he := k3_ne hk
        have HNK := Aside0.mk hk
        clear hk
        go_wp2
        go_roundg k1
        case measure => exact Nat.lt_succ_self _
        case rel =>
          refine ⟨i + 1, rfl, ⟨HIL.out, HIK.out, fun j hj => ?_⟩, HB1⟩
          rcases Nat.lt_succ_iff_lt_or_eq.1 hj with c | c
          · exact HI.out.2.2 j c
          · rw [c, HPD.out]
            exact HNK.out
    · have cb : decide (i < l.length) = false := decide_eq_false hi
      have hri : r = -1 := by
        have h0 := HI.out.1
        obtain rfl : i = l.length := by omega
        rcases HR.out with ⟨i', e, h1, h2, h3⟩ | ⟨e, h3⟩
        · exact absurd h2 (HI.out.2.2 i' h1)
        · exact e
      have HRI := Aside0.mk hri
      clear hik hi hri
      go_wp2
      go_ret
      exact ⟨by rw [HRI.out]; rfl, below_step HB0.out HB.out⟩
theorem new_ref (w : World) (r : Int) : Below w.heap.size w (w.alloc (.cells #[.int .i64 r, .slice none 0 0] 53 (0, 0))) ∧ w.heap.size ≤ w.heap.size ∧ ∀ base (ok : Nat → Prop), base ≤ w.heap.size → (∀ q, w.heap.size ≤ q → ok q) → CRef (w.alloc (.cells #[.int .i64 r, .slice none 0 0] 53 (0, 0))) base ok w.heap.size r (.slice none 0 0) [] :=
  ⟨below_alloc (Below.refl _ _) _, Nat.le_refl _, fun base ok hb hok => ⟨blk_new _ _, ⟨World.ownsRow_nil _ _ _ _, fun k hk => by cases hk⟩, hok _ (Nat.le_refl _), hb⟩⟩
set_option maxHeartbeats 1000000 in
theorem rnew_calls {w : World} {r : Int} : Calls Try.prog 20 #[.int .i64 r] w fun e w' => ∃ g, e = .returned (.pointer (some ⟨g, 0, none⟩)) ∧ Below w.heap.size w w' ∧ w.heap.size ≤ g ∧ ∀ base (ok : Nat → Prop), base ≤ w.heap.size → (∀ q, w.heap.size ≤ q → ok q) → CRef w' base ok g (min (max r 0) 64) (.slice none 0 0) [] := by
  go_enter Try.func20, Try.ntmps20
  go_wp2
  · go_ret
    exact ⟨_, rfl, by rw [show min (max r 0) 64 = 0 by omega]; exact new_ref w 0⟩
  · go_ret
    exact ⟨_, rfl, by rw [show min (max r 0) 64 = 64 by omega]; exact new_ref w 64⟩
  · go_ret
    exact ⟨_, rfl, by rw [show min (max r 0) 64 = r by omega]; exact new_ref w r⟩
end Go.Proofs.Ytlpbfhbfaphicaa.C19
