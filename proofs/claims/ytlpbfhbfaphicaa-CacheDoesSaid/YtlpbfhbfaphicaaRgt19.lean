/- Layer 19 (cache): the document's Get, walked. -/
import Derived.Test.YtlpbfhbfaphicaaClo19
namespace Go.Proofs.Ytlpbfhbfaphicaa.C19
open Go Go.RowKit Go.Maps Go.Lib Go.Sort Go.Proofs.YtlpbfhbfaphicaaW.PrintWords Go.Proofs.YtlpbfhbfaphicaaW.PrintLast Go.Proofs.YtlpbfhbfaphicaaW.PrintMore Go.Proofs.Ytlpbfhbfaphicaa.XA

set_option linter.unusedVariables false
structure RG (g gr i c0 : Nat) (l : List Pr) (p : Pr) (w1 w' : World) (b0 b1 b2 b3 b4 b5 b6 b7 b8 b9 b10 b11 b12 b13 b14 b15 b16 b17 b18 b19 b20 b21 b22 : Bool) (a20 a21 a22 a23 a24 a25 a26 a27 a28 a29 a30 a31 a32 a33 a34 a35 a36 a37 a38 a39 a40 a41 : Value) (gq : Nat) : Prop where
  sz : gq < w'.heap.size
  below : b22 = false → Below w1.heap.size w1 w'
  fin : b22 = true → ∃ w0, Below w1.heap.size w1 w0 ∧ RowP w0 w1.heap.size (fun q => w1.heap.size ≤ q ∧ q ≠ gq) a39 (l.take i ++ l.drop (i + 1) ++ [p]) ∧ w' = w0.setCell ⟨g, 1, none⟩ a39
  r1 : b1 = true → b8 = false → RowP w' w1.heap.size (fun q => w1.heap.size ≤ q ∧ q ≠ gq) a21 ([] : List Pr)
  r8 : b8 = true → b16 = false → RowP w' w1.heap.size (fun q => w1.heap.size ≤ q ∧ q ≠ gq) a28 (l.take i)
  r16 : b16 = true → b19 = false → RowP w' w1.heap.size (fun q => w1.heap.size ≤ q ∧ q ≠ gq) a36 (l.take i ++ l.drop (i + 1))
  r19 : b19 = true → b22 = false → RowP w' w1.heap.size (fun q => w1.heap.size ≤ q ∧ q ≠ gq) a39 (l.take i ++ l.drop (i + 1) ++ [p])
  h18 : b18 = true → b22 = false → a38 = .slice (some ⟨gq, 0, none⟩) 1 1 ∧ BoxP w' gq p ∧ w1.heap.size ≤ gq
  h0 : b0 = true → a20 = .pointer (some ⟨g, 0, none⟩)
  h2 : b2 = true → a22 = .pointer (some ⟨g, 0, none⟩)
  h3 : b3 = true → a23 = .pointer (some ⟨g, 0, none⟩)
  h4 : b4 = true → a24 = .pointer (some ⟨g, 1, none⟩)
  h5 : b5 = true → a25 = .slice (some ⟨gr, 0, none⟩) l.length c0
  h6 : b6 = true → a26 = .int .i64 (i : Int)
  h7 : b7 = true → a27 = .slice (some ⟨gr, 0, none⟩) i c0
  h9 : b9 = true → a29 = .pointer (some ⟨g, 0, none⟩)
  h10 : b10 = true → a30 = .pointer (some ⟨g, 0, none⟩)
  h11 : b11 = true → a31 = .pointer (some ⟨g, 1, none⟩)
  h12 : b12 = true → a32 = .slice (some ⟨gr, 0, none⟩) l.length c0
  h13 : b13 = true → a33 = .int .i64 (i : Int)
  h14 : b14 = true → a34 = .int .i64 ((i : Int) + 1)
  h15 : b15 = true → a35 = .slice (some (dropA gr i c0)) (l.length - (i + 1)) (c0 - (i + 1))
  h17 : b17 = true → a37 = pv p
  h20 : b20 = true → a40 = .pointer (some ⟨g, 0, none⟩)
  h21 : b21 = true → a41 = .pointer (some ⟨g, 1, none⟩)
def IG (mk : Value → Value → Value → Value → Value → Value → Value → Value → Value → Value → Value → Value → Value → Value → Value → Value → Value → Value → Value → Value → Value → Value → Act) (g gr i c0 : Nat) (l : List Pr) (p : Pr) (w1 : World) (lb : Array Bool) (a : Act) (w' : World) : Prop :=
  ∃ b0 b1 b2 b3 b4 b5 b6 b7 b8 b9 b10 b11 b12 b13 b14 b15 b16 b17 b18 b19 b20 b21 b22 : Bool, ∃ a20 a21 a22 a23 a24 a25 a26 a27 a28 a29 a30 a31 a32 a33 a34 a35 a36 a37 a38 a39 a40 a41 : Value, ∃ gq : Nat, lb = [b0, b1, b2, b3, b4, b5, b6, b7, b8, b9, b10, b11, b12, b13, b14, b15, b16, b17, b18, b19, b20, b21, b22].toArray ∧ a = mk a20 a21 a22 a23 a24 a25 a26 a27 a28 a29 a30 a31 a32 a33 a34 a35 a36 a37 a38 a39 a40 a41 ∧ RG g gr i c0 l p w1 w' b0 b1 b2 b3 b4 b5 b6 b7 b8 b9 b10 b11 b12 b13 b14 b15 b16 b17 b18 b19 b20 b21 b22 a20 a21 a22 a23 a24 a25 a26 a27 a28 a29 a30 a31 a32 a33 a34 a35 a36 a37 a38 a39 a40 a41 gq
set_option maxHeartbeats 4000000 in
set_option maxRecDepth 100000 in
theorem rget_calls {w : World} {base g : Nat} {ok : Nat → Prop} {room : Int} {v : Value} {l : List Pr} {k : K3} (H : CRef w base ok g room v l) (hn : (l.map Prod.fst).Nodup) (hl : l.length ≤ 1000) (hfresh : ∀ q, w.heap.size ≤ q → ok q) (hbase : base ≤ w.heap.size) :
    Calls Try.prog 22 #[.pointer (some ⟨g, 0, none⟩), kv k] w fun e w' => e = .returned (.tuple #[.int .i64 ((lookP l k).getD 0), .bool (lookP l k).isSome]) ∧ Kept ok w w' ∧ ∃ v', CRef w' base ok g room v' (getP l k) := by
  have HH := Aside0.mk H
  have HN := Aside0.mk hn
  have HL := Aside0.mk hl
  have HFR0 := Aside0.mk hfresh
  have HBS0 := Aside0.mk hbase
  clear hn hl hfresh hbase H
  obtain ⟨l1, hl1⟩ : ∃ z, getP l k = z := ⟨_, rfl⟩
  obtain ⟨lk, hlk⟩ : ∃ z, lookP l k = z := ⟨_, rfl⟩
  rw [hl1, hlk]
  have HL1 := Aside0.mk hl1
  have HLK := Aside0.mk hlk
  clear hl1 hlk
  go_enter Try.func22, Try.ntmps22
  go_upto_region 1 with (fail)
  have hb0 : Below w.heap.size w (w.alloc (.cells (kc k).toArray 37 (0, 0))) := below_alloc (Below.refl _ _) _
  have HC : Aside0 (CRef (w.alloc (.cells (kc k).toArray 37 (0, 0))) base (fun q => ok q ∧ q ≠ w.heap.size) g room v l) := ⟨(HH.out.mono (fun q hq ho => ⟨ho, Nat.ne_of_lt hq⟩)).below hb0⟩
  have HK : Aside0 (BoxR (w.alloc (.cells (kc k).toArray 37 (0, 0))) w.heap.size k) := ⟨blk_new _ _⟩
  have HB0 : Aside0 (Below w.heap.size w (w.alloc (.cells (kc k).toArray 37 (0, 0)))) := ⟨hb0⟩
  have HSZ : Aside0 (w.heap.size + 1 ≤ (w.alloc (.cells (kc k).toArray 37 (0, 0))).heap.size) := ⟨by rw [World.size_alloc]; exact Nat.le_refl _⟩
  clear hb0 HH
  generalize (w.alloc (Obj.cells #[.int .u64 k.f0, .int .i64 k.f1, .int .i64 k.f2] 37)) = W0 at HC HK HB0 HSZ ⊢
  obtain ⟨xk0, xk1, xk2⟩ := HK.out.cells
  cases lk with
  | none =>
    have CA := Aside0.mk (at_calls (k := k) HC.out HL.out (.inr ⟨rfl, look_no HLK.out⟩))
    have hg1 : l1 = l := by
      have h1 := HL1.out
      unfold getP at h1
      rw [HLK.out] at h1
      exact h1.symm
    have HG1 := Aside0.mk hg1
    clear hg1
    go_wp2_with (go_at_call 31; (with_reducible refine CA.out.mono ?_); rintro e w2 ⟨rfl, hb⟩; have HB := Aside0.mk hb; clear hb)
    go_ret2
    refine ⟨rfl, Kept.of_below ok (below_step HB0.out HB.out), v, ?_⟩
    rw [HG1.out]
    exact (HC.out.below HB.out).mono (fun q _ ho => ho.1)
  | some x =>
    obtain ⟨i, hi, hpi, hfirst⟩ := look_idx HLK.out
    have CA := Aside0.mk (at_calls (k := k) HC.out HL.out (.inl ⟨i, rfl, hi, by rw [hpi], hfirst⟩))
    have hg1 : l1 = l.take i ++ l.drop (i + 1) ++ [(k, x)] := by
      have h1 := HL1.out
      unfold getP at h1
      rw [HLK.out] at h1
      rw [del_take l i HN.out hi (by rw [hpi])]
      exact h1.symm
    have HG1 := Aside0.mk hg1
    have HI := Aside0.mk hi
    have HPI := Aside0.mk hpi
    clear hg1 hfirst hpi
    have dneg : decide ((i : Int) < 0) = false := decide_eq_false (by omega)
    go_upto_region 2 with (go_at_call 31; (with_reducible refine CA.out.mono ?_); rintro e w2 ⟨rfl, hb⟩; have HB := Aside0.mk hb; clear hb)
    have HC2 := Aside0.mk (HC.out.below HB.out)
    have HK2 := Aside0.mk (HK.out.below HB.out)
    have HS2 : Aside0 (w.heap.size + 1 ≤ w2.heap.size) := ⟨Nat.le_trans HSZ.out HB.out.size⟩
    have HB2 := Aside0.mk (below_step HB0.out HB.out)
    clear HC HK HSZ HB0 HB CA xk0 xk1 xk2
    obtain ⟨A0, c0, hv⟩ := Kd.R_slice HC2.out.row.R
    subst hv
    obtain ⟨ad, rfl, xs0, xs1, xs2, xs3⟩ := at_P (Kd.R_reads' HC2.out.row.R).2.2 i hi
    obtain ⟨gr, cr, hv, _, hgr, _⟩ := Kd.R_form HC2.out.row.R (by omega)
    injection hv with hA0 _ hcr
    injection hA0 with hA0
    subst hA0
    subst hcr
    obtain ⟨hn0, hnc0, _⟩ := Kd.R_reads' HC2.out.row.R
    rw [HPI.out] at xs0 xs1 xs2 xs3
    have ead : (⟨gr, 0, none⟩ : Addr).add (i * 4) = ⟨gr, i * 4, none⟩ := by
      by_cases h0 : i = 0
      · simp [Addr.add, h0]
      · simp [Addr.add]
        omega
    rw [ead] at xs0 xs1 xs2 xs3
    dsimp only at xs0 xs1 xs2 xs3
    obtain ⟨_, xc1, _⟩ := HC2.out.cells
    have cbi : (i : Int) < (l.length : Int) := by omega
    have cb0 : (0 : Int) ≤ (i : Int) := by omega
    go_upto_region 5 with (fail)
    have hb3 : Below w2.heap.size w2 (w2.alloc (.cells (pc (k, x)).toArray 70 (0, 0))) := below_alloc (Below.refl _ _) _
    have HC3 : Aside0 (CRef (w2.alloc (.cells (pc (k, x)).toArray 70 (0, 0))) base (fun q => (ok q ∧ q ≠ w.heap.size) ∧ q ≠ w2.heap.size) g room (.slice (some ⟨gr, 0, none⟩) l.length c0) l) := ⟨(HC2.out.mono (fun q hq ho => ⟨ho, Nat.ne_of_lt hq⟩)).below hb3⟩
    have HX3 : Aside0 (BoxP (w2.alloc (.cells (pc (k, x)).toArray 70 (0, 0))) w2.heap.size (k, x)) := ⟨blk_new _ _⟩
    have HB3 : Aside0 (Below w.heap.size w (w2.alloc (.cells (pc (k, x)).toArray 70 (0, 0)))) := ⟨below_step HB2.out hb3⟩
    have HS3 : Aside0 (w2.heap.size + 1 ≤ (w2.alloc (.cells (pc (k, x)).toArray 70 (0, 0))).heap.size) := ⟨by rw [World.size_alloc]; exact Nat.le_refl _⟩
    have HNC := Aside0.mk hnc0
    have hA' := dropA_if gr i c0
    have hic : i ≤ c0 := by omega
    have hjc : i + 1 ≤ c0 := by omega
    have hb1 : (0 : Int) ≤ (i : Int) + 1 := by omega
    have hb2 : (i : Int) + 1 ≤ (l.length : Int) := by omega
    have wi : IntKind.i64.wrap ((i : Int) + 1) = (i : Int) + 1 := by have := HL.out; rw [i64_w]; unfold wrap64; omega
    have HTL : Aside0 ((l.take i).length = i) := ⟨by rw [List.length_take]; omega⟩
    have HDL : Aside0 ((l.drop (i + 1)).length = l.length - (i + 1)) := ⟨List.length_drop⟩
    have HLN1 : Aside0 (([] : List Pr).length + (l.take i).length ≤ 100000) := ⟨by have h1 := HTL.out; have h2 := HL.out; rw [h1]; show 0 + i ≤ _; omega⟩
    have HLN2 : Aside0 ((l.take i).length + (l.drop (i + 1)).length ≤ 100000) := ⟨by have h1 := HTL.out; have h2 := HL.out; have h3 := HDL.out; omega⟩
    have HLN3 : Aside0 ((l.take i ++ l.drop (i + 1)).length ≤ 10000) := ⟨by have h1 := HTL.out; have h2 := HL.out; have h3 := HDL.out; rw [List.length_append]; omega⟩
    clear hb3 xs0 xs1 xs2 xs3 xc1 hnc0 hi ead HC2 HK2
    generalize (w2.alloc (Obj.cells #[.int .u64 k.f0, .int .i64 k.f1, .int .i64 k.f2, .int .i64 x] 70)) = W1 at HC3 HX3 HB3 HS3 ⊢
    refine wp_region_inv2 (IG (fun a20 a21 a22 a23 a24 a25 a26 a27 a28 a29 a30 a31 a32 a33 a34 a35 a36 a37 a38 a39 a40 a41 => { tmps := #[.pointer (some ⟨g, 0, none⟩), kv k, undef, .pointer (some ⟨w.heap.size, 0, none⟩), .int .i64 0, .bool false, .int .i64 (i : Int), .pointer (some ⟨w2.heap.size, 0, none⟩), .pointer (some ⟨g, 0, none⟩), .agg #[.int .u64 k.f0, .int .i64 k.f1, .int .i64 k.f2], .int .i64 (i : Int), .int .i64 (i : Int), .bool false, .pointer (some ⟨g, 0, none⟩), .pointer (some ⟨g, 0, none⟩), .pointer (some ⟨g, 1, none⟩), .slice (some ⟨gr, 0, none⟩) l.length c0, .int .i64 (i : Int), .pointer (some ⟨gr, i * 4, none⟩), pv (k, x), a20, a21, a22, a23, a24, a25, a26, a27, a28, a29, a30, a31, a32, a33, a34, a35, a36, a37, a38, a39, a40, a41, undef, undef], defers := [] }) g gr i c0 l (k, x) W1) (by kernel_rfl) ?start ?step ?done
    case start =>
      exact ⟨false, false, false, false, false, false, false, false, false, false, false, false, false, false, false, false, false, false, false, false, false, false, false, undef, undef, undef, undef, undef, undef, undef, undef, undef, undef, undef, undef, undef, undef, undef, undef, undef, undef, undef, undef, undef, undef, g, rfl, rfl, ⟨HC3.out.lt.1, (fun _ => below_drew1 (Below.refl _ _)), (fun h => by cases h), (fun h => by cases h), (fun h => by cases h), (fun h => by cases h), (fun h => by cases h), (fun h => by cases h), (fun h => by cases h), (fun h => by cases h), (fun h => by cases h), (fun h => by cases h), (fun h => by cases h), (fun h => by cases h), (fun h => by cases h), (fun h => by cases h), (fun h => by cases h), (fun h => by cases h), (fun h => by cases h), (fun h => by cases h), (fun h => by cases h), (fun h => by cases h), (fun h => by cases h), (fun h => by cases h), (fun h => by cases h)⟩⟩
    case step =>
      rintro lb a w' q ⟨b0, b1, b2, b3, b4, b5, b6, b7, b8, b9, b10, b11, b12, b13, b14, b15, b16, b17, b18, b19, b20, b21, b22, a20, a21, a22, a23, a24, a25, a26, a27, a28, a29, a30, a31, a32, a33, a34, a35, a36, a37, a38, a39, a40, a41, gq, rfl, rfl, hR⟩ hcl hi
      have HRR := Aside0.mk hR
      clear hR
      have hq : q < 23 := (ready_free hi).1
      have hcase : q = 0 ∨ q = 1 ∨ q = 2 ∨ q = 3 ∨ q = 4 ∨ q = 5 ∨ q = 6 ∨ q = 7 ∨ q = 8 ∨ q = 9 ∨ q = 10 ∨ q = 11 ∨ q = 12 ∨ q = 13 ∨ q = 14 ∨ q = 15 ∨ q = 16 ∨ q = 17 ∨ q = 18 ∨ q = 19 ∨ q = 20 ∨ q = 21 ∨ q = 22 := by omega
      clear hq
      dsimp only
      rcases hcase with rfl | rfl | rfl | rfl | rfl | rfl | rfl | rfl | rfl | rfl | rfl | rfl | rfl | rfl | rfl | rfl | rfl | rfl | rfl | rfl | rfl | rfl | rfl
      · have hfl : b0 = false := (ready_free hi).2
        have hS : b22 = false := by
          cases h : b22 with
          | false => rfl
          | true => exact absurd (show b0 = true from (closed_dep hcl (i := 20) rfl 0 rfl (closed_dep hcl (i := 21) rfl 20 rfl (closed_dep hcl (i := 22) rfl 21 rfl h)))) (by rw [hfl]; exact Bool.false_ne_true)
        clear hi hcl
        obtain rfl : b22 = false := hS
        refine wpOp_step rfl (fun K' hK => ?_)
        go_simp
        have R := HRR.out
        exact hK _ _ ⟨true, b1, b2, b3, b4, b5, b6, b7, b8, b9, b10, b11, b12, b13, b14, b15, b16, b17, b18, b19, b20, b21, false, _, _, _, _, _, _, _, _, _, _, _, _, _, _, _, _, _, _, _, _, _, _, gq, rfl, rfl, ⟨R.sz, R.below, (fun h => by cases h), R.r1, R.r8, R.r16, R.r19, R.h18, (fun _ => rfl), R.h2, R.h3, R.h4, R.h5, R.h6, R.h7, R.h9, R.h10, R.h11, R.h12, R.h13, R.h14, R.h15, R.h17, R.h20, R.h21⟩⟩
      · have hfl : b1 = false := (ready_free hi).2
        have hS : b22 = false := by
          cases h : b22 with
          | false => rfl
          | true => exact absurd (show b1 = true from (closed_dep hcl (i := 8) rfl 1 rfl (closed_dep hcl (i := 16) rfl 8 rfl (closed_dep hcl (i := 19) rfl 16 rfl (closed_dep hcl (i := 22) rfl 19 rfl h))))) (by rw [hfl]; exact Bool.false_ne_true)
        clear hi hcl
        obtain rfl : b22 = false := hS
        refine wpOp_step rfl (fun K' hK => ?_)
        go_simp
        have R := HRR.out
        exact hK _ _ ⟨b0, true, b2, b3, b4, b5, b6, b7, b8, b9, b10, b11, b12, b13, b14, b15, b16, b17, b18, b19, b20, b21, false, _, _, _, _, _, _, _, _, _, _, _, _, _, _, _, _, _, _, _, _, _, _, gq, rfl, rfl, ⟨(Nat.lt_of_lt_of_le R.sz (below_alloc (Below.refl _ _) _).size), (fun _ => below_step (R.below rfl) (below_alloc (Below.refl _ _) _)), (fun h => by cases h), (fun _ _ => RowP.none_ w' _ _ (R.below rfl).size ⟨(R.below rfl).size, Nat.ne_of_gt R.sz⟩), (fun h h' => (R.r8 h h').below (below_alloc (Below.refl _ _) _)), (fun h h' => (R.r16 h h').below (below_alloc (Below.refl _ _) _)), (fun h h' => (R.r19 h h').below (below_alloc (Below.refl _ _) _)), (fun h h' => let ⟨e, q, s⟩ := R.h18 h h'; ⟨e, q.below (below_alloc (Below.refl _ _) _), s⟩), R.h0, R.h2, R.h3, R.h4, R.h5, R.h6, R.h7, R.h9, R.h10, R.h11, R.h12, R.h13, R.h14, R.h15, R.h17, R.h20, R.h21⟩⟩
      · have hfl : b2 = false := (ready_free hi).2
        have hS : b22 = false := by
          cases h : b22 with
          | false => rfl
          | true => exact absurd (show b2 = true from (closed_dep hcl (i := 3) rfl 2 rfl (closed_dep hcl (i := 4) rfl 3 rfl (closed_dep hcl (i := 5) rfl 4 rfl (closed_dep hcl (i := 7) rfl 5 rfl (closed_dep hcl (i := 8) rfl 7 rfl (closed_dep hcl (i := 16) rfl 8 rfl (closed_dep hcl (i := 19) rfl 16 rfl (closed_dep hcl (i := 22) rfl 19 rfl h))))))))) (by rw [hfl]; exact Bool.false_ne_true)
        clear hi hcl
        obtain rfl : b22 = false := hS
        refine wpOp_step rfl (fun K' hK => ?_)
        go_simp
        have R := HRR.out
        exact hK _ _ ⟨b0, b1, true, b3, b4, b5, b6, b7, b8, b9, b10, b11, b12, b13, b14, b15, b16, b17, b18, b19, b20, b21, false, _, _, _, _, _, _, _, _, _, _, _, _, _, _, _, _, _, _, _, _, _, _, gq, rfl, rfl, ⟨R.sz, R.below, (fun h => by cases h), R.r1, R.r8, R.r16, R.r19, R.h18, R.h0, (fun _ => rfl), R.h3, R.h4, R.h5, R.h6, R.h7, R.h9, R.h10, R.h11, R.h12, R.h13, R.h14, R.h15, R.h17, R.h20, R.h21⟩⟩
      · have hfl : b3 = false := (ready_free hi).2
        have k2 : b2 = true := ready_dep hi rfl 2 rfl
        have hS : b22 = false := by
          cases h : b22 with
          | false => rfl
          | true => exact absurd (show b3 = true from (closed_dep hcl (i := 4) rfl 3 rfl (closed_dep hcl (i := 5) rfl 4 rfl (closed_dep hcl (i := 7) rfl 5 rfl (closed_dep hcl (i := 8) rfl 7 rfl (closed_dep hcl (i := 16) rfl 8 rfl (closed_dep hcl (i := 19) rfl 16 rfl (closed_dep hcl (i := 22) rfl 19 rfl h)))))))) (by rw [hfl]; exact Bool.false_ne_true)
        clear hi hcl
        obtain rfl : b22 = false := hS
        obtain rfl := HRR.out.h2 k2
        refine wpOp_step rfl (fun K' hK => ?_)
        go_simp
        have R := HRR.out
        exact hK _ _ ⟨b0, b1, b2, true, b4, b5, b6, b7, b8, b9, b10, b11, b12, b13, b14, b15, b16, b17, b18, b19, b20, b21, false, _, _, _, _, _, _, _, _, _, _, _, _, _, _, _, _, _, _, _, _, _, _, gq, rfl, rfl, ⟨R.sz, R.below, (fun h => by cases h), R.r1, R.r8, R.r16, R.r19, R.h18, R.h0, R.h2, (fun _ => rfl), R.h4, R.h5, R.h6, R.h7, R.h9, R.h10, R.h11, R.h12, R.h13, R.h14, R.h15, R.h17, R.h20, R.h21⟩⟩
      · have hfl : b4 = false := (ready_free hi).2
        have k3 : b3 = true := ready_dep hi rfl 3 rfl
        have hS : b22 = false := by
          cases h : b22 with
          | false => rfl
          | true => exact absurd (show b4 = true from (closed_dep hcl (i := 5) rfl 4 rfl (closed_dep hcl (i := 7) rfl 5 rfl (closed_dep hcl (i := 8) rfl 7 rfl (closed_dep hcl (i := 16) rfl 8 rfl (closed_dep hcl (i := 19) rfl 16 rfl (closed_dep hcl (i := 22) rfl 19 rfl h))))))) (by rw [hfl]; exact Bool.false_ne_true)
        clear hi hcl
        obtain rfl : b22 = false := hS
        obtain rfl := HRR.out.h3 k3
        refine wpOp_step rfl (fun K' hK => ?_)
        go_simp
        have R := HRR.out
        exact hK _ _ ⟨b0, b1, b2, b3, true, b5, b6, b7, b8, b9, b10, b11, b12, b13, b14, b15, b16, b17, b18, b19, b20, b21, false, _, _, _, _, _, _, _, _, _, _, _, _, _, _, _, _, _, _, _, _, _, _, gq, rfl, rfl, ⟨R.sz, R.below, (fun h => by cases h), R.r1, R.r8, R.r16, R.r19, R.h18, R.h0, R.h2, R.h3, (fun _ => rfl), R.h5, R.h6, R.h7, R.h9, R.h10, R.h11, R.h12, R.h13, R.h14, R.h15, R.h17, R.h20, R.h21⟩⟩
      · have hfl : b5 = false := (ready_free hi).2
        have k4 : b4 = true := ready_dep hi rfl 4 rfl
        have hS : b22 = false := by
          cases h : b22 with
          | false => rfl
          | true => exact absurd (show b5 = true from (closed_dep hcl (i := 7) rfl 5 rfl (closed_dep hcl (i := 8) rfl 7 rfl (closed_dep hcl (i := 16) rfl 8 rfl (closed_dep hcl (i := 19) rfl 16 rfl (closed_dep hcl (i := 22) rfl 19 rfl h)))))) (by rw [hfl]; exact Bool.false_ne_true)
        clear hi hcl
        obtain rfl : b22 = false := hS
        obtain rfl := HRR.out.h4 k4
        obtain ⟨_, hcg, _⟩ := (HC3.out.below (HRR.out.below rfl)).cells
        refine wpOp_step rfl (fun K' hK => ?_)
        go_simp
        have R := HRR.out
        exact hK _ _ ⟨b0, b1, b2, b3, b4, true, b6, b7, b8, b9, b10, b11, b12, b13, b14, b15, b16, b17, b18, b19, b20, b21, false, _, _, _, _, _, _, _, _, _, _, _, _, _, _, _, _, _, _, _, _, _, _, gq, rfl, rfl, ⟨R.sz, R.below, (fun h => by cases h), R.r1, R.r8, R.r16, R.r19, R.h18, R.h0, R.h2, R.h3, R.h4, (fun _ => rfl), R.h6, R.h7, R.h9, R.h10, R.h11, R.h12, R.h13, R.h14, R.h15, R.h17, R.h20, R.h21⟩⟩
      · have hfl : b6 = false := (ready_free hi).2
        have hS : b22 = false := by
          cases h : b22 with
          | false => rfl
          | true => exact absurd (show b6 = true from (closed_dep hcl (i := 7) rfl 6 rfl (closed_dep hcl (i := 8) rfl 7 rfl (closed_dep hcl (i := 16) rfl 8 rfl (closed_dep hcl (i := 19) rfl 16 rfl (closed_dep hcl (i := 22) rfl 19 rfl h)))))) (by rw [hfl]; exact Bool.false_ne_true)
        clear hi hcl
        obtain rfl : b22 = false := hS
        refine wpOp_step rfl (fun K' hK => ?_)
        go_simp
        have R := HRR.out
        exact hK _ _ ⟨b0, b1, b2, b3, b4, b5, true, b7, b8, b9, b10, b11, b12, b13, b14, b15, b16, b17, b18, b19, b20, b21, false, _, _, _, _, _, _, _, _, _, _, _, _, _, _, _, _, _, _, _, _, _, _, gq, rfl, rfl, ⟨R.sz, R.below, (fun h => by cases h), R.r1, R.r8, R.r16, R.r19, R.h18, R.h0, R.h2, R.h3, R.h4, R.h5, (fun _ => rfl), R.h7, R.h9, R.h10, R.h11, R.h12, R.h13, R.h14, R.h15, R.h17, R.h20, R.h21⟩⟩
      · have hfl : b7 = false := (ready_free hi).2
        have k5 : b5 = true := ready_dep hi rfl 5 rfl
        have k6 : b6 = true := ready_dep hi rfl 6 rfl
        have hS : b22 = false := by
          cases h : b22 with
          | false => rfl
          | true => exact absurd (show b7 = true from (closed_dep hcl (i := 8) rfl 7 rfl (closed_dep hcl (i := 16) rfl 8 rfl (closed_dep hcl (i := 19) rfl 16 rfl (closed_dep hcl (i := 22) rfl 19 rfl h))))) (by rw [hfl]; exact Bool.false_ne_true)
        clear hi hcl
        obtain rfl : b22 = false := hS
        obtain rfl := HRR.out.h5 k5
        obtain rfl := HRR.out.h6 k6
        refine wpOp_step rfl (fun K' hK => ?_)
        go_simp
        have R := HRR.out
        exact hK _ _ ⟨b0, b1, b2, b3, b4, b5, b6, true, b8, b9, b10, b11, b12, b13, b14, b15, b16, b17, b18, b19, b20, b21, false, _, _, _, _, _, _, _, _, _, _, _, _, _, _, _, _, _, _, _, _, _, _, gq, rfl, rfl, ⟨R.sz, R.below, (fun h => by cases h), R.r1, R.r8, R.r16, R.r19, R.h18, R.h0, R.h2, R.h3, R.h4, R.h5, R.h6, (fun _ => rfl), R.h9, R.h10, R.h11, R.h12, R.h13, R.h14, R.h15, R.h17, R.h20, R.h21⟩⟩
      · have hfl : b8 = false := (ready_free hi).2
        have k1 : b1 = true := ready_dep hi rfl 1 rfl
        have k7 : b7 = true := ready_dep hi rfl 7 rfl
        have hS : b22 = false := by
          cases h : b22 with
          | false => rfl
          | true => exact absurd (show b8 = true from (closed_dep hcl (i := 16) rfl 8 rfl (closed_dep hcl (i := 19) rfl 16 rfl (closed_dep hcl (i := 22) rfl 19 rfl h)))) (by rw [hfl]; exact Bool.false_ne_true)
        have z16 : b16 = true → False := fun h => absurd (show b8 = true from (closed_dep hcl (i := 16) rfl 8 rfl h)) (by rw [hfl]; exact Bool.false_ne_true)
        have z19 : b19 = true → False := fun h => absurd (show b8 = true from (closed_dep hcl (i := 16) rfl 8 rfl (closed_dep hcl (i := 19) rfl 16 rfl h))) (by rw [hfl]; exact Bool.false_ne_true)
        clear hi hcl
        obtain rfl : b22 = false := hS
        obtain rfl := HRR.out.h7 k7
        have HR0 := HRR.out.r1 k1 hfl
        have hbel := HRR.out.below rfl
        have hsz := HRR.out.sz
        obtain ⟨v1, W2, hrun, hr1, hg1⟩ := appendM (c := c0) i HTL.out HR0 (read_take (HC3.out.row.below hbel) i) (fun q hq => ⟨Nat.le_trans hbel.size hq, by omega⟩) hbel.size HLN1.out
        have HR1 := Aside0.mk hr1
        have HG1 := Aside0.mk hg1
        have HOK := Aside0.mk HR0.ok
        clear hr1 hg1 HR0 hbel hsz
        refine wpOp_append rfl rfl (.tmp 21) (.tmp 27) 51 rfl rfl rfl hrun ?_
        have R := HRR.out
        exact ⟨b0, b1, b2, b3, b4, b5, b6, b7, true, b9, b10, b11, b12, b13, b14, b15, b16, b17, b18, b19, b20, b21, false, _, _, _, _, _, _, _, _, _, _, _, _, _, _, _, _, _, _, _, _, _, _, gq, rfl, rfl, ⟨(Nat.lt_of_lt_of_le R.sz HG1.out.size), (fun _ => below_grown (R.below rfl) HG1.out (fun q hq => (HOK.out q hq).1) (Nat.le_refl _)), (fun h => by cases h), (fun _ h' => by cases h'), (fun _ _ => HR1.out), (fun h _ => (z16 h).elim), (fun h _ => (z19 h).elim), (fun h h' => let ⟨e, q, s⟩ := R.h18 h h'; ⟨e, blk_grown q HG1.out (fun e => (HOK.out _ e.symm).2 rfl), s⟩), R.h0, R.h2, R.h3, R.h4, R.h5, R.h6, R.h7, R.h9, R.h10, R.h11, R.h12, R.h13, R.h14, R.h15, R.h17, R.h20, R.h21⟩⟩
      · have hfl : b9 = false := (ready_free hi).2
        have hS : b22 = false := by
          cases h : b22 with
          | false => rfl
          | true => exact absurd (show b9 = true from (closed_dep hcl (i := 10) rfl 9 rfl (closed_dep hcl (i := 11) rfl 10 rfl (closed_dep hcl (i := 12) rfl 11 rfl (closed_dep hcl (i := 15) rfl 12 rfl (closed_dep hcl (i := 16) rfl 15 rfl (closed_dep hcl (i := 19) rfl 16 rfl (closed_dep hcl (i := 22) rfl 19 rfl h)))))))) (by rw [hfl]; exact Bool.false_ne_true)
        clear hi hcl
        obtain rfl : b22 = false := hS
        refine wpOp_step rfl (fun K' hK => ?_)
        go_simp
        have R := HRR.out
        exact hK _ _ ⟨b0, b1, b2, b3, b4, b5, b6, b7, b8, true, b10, b11, b12, b13, b14, b15, b16, b17, b18, b19, b20, b21, false, _, _, _, _, _, _, _, _, _, _, _, _, _, _, _, _, _, _, _, _, _, _, gq, rfl, rfl, ⟨R.sz, R.below, (fun h => by cases h), R.r1, R.r8, R.r16, R.r19, R.h18, R.h0, R.h2, R.h3, R.h4, R.h5, R.h6, R.h7, (fun _ => rfl), R.h10, R.h11, R.h12, R.h13, R.h14, R.h15, R.h17, R.h20, R.h21⟩⟩
      · have hfl : b10 = false := (ready_free hi).2
        have k9 : b9 = true := ready_dep hi rfl 9 rfl
        have hS : b22 = false := by
          cases h : b22 with
          | false => rfl
          | true => exact absurd (show b10 = true from (closed_dep hcl (i := 11) rfl 10 rfl (closed_dep hcl (i := 12) rfl 11 rfl (closed_dep hcl (i := 15) rfl 12 rfl (closed_dep hcl (i := 16) rfl 15 rfl (closed_dep hcl (i := 19) rfl 16 rfl (closed_dep hcl (i := 22) rfl 19 rfl h))))))) (by rw [hfl]; exact Bool.false_ne_true)
        clear hi hcl
        obtain rfl : b22 = false := hS
        obtain rfl := HRR.out.h9 k9
        refine wpOp_step rfl (fun K' hK => ?_)
        go_simp
        have R := HRR.out
        exact hK _ _ ⟨b0, b1, b2, b3, b4, b5, b6, b7, b8, b9, true, b11, b12, b13, b14, b15, b16, b17, b18, b19, b20, b21, false, _, _, _, _, _, _, _, _, _, _, _, _, _, _, _, _, _, _, _, _, _, _, gq, rfl, rfl, ⟨R.sz, R.below, (fun h => by cases h), R.r1, R.r8, R.r16, R.r19, R.h18, R.h0, R.h2, R.h3, R.h4, R.h5, R.h6, R.h7, R.h9, (fun _ => rfl), R.h11, R.h12, R.h13, R.h14, R.h15, R.h17, R.h20, R.h21⟩⟩
      · have hfl : b11 = false := (ready_free hi).2
        have k10 : b10 = true := ready_dep hi rfl 10 rfl
        have hS : b22 = false := by
          cases h : b22 with
          | false => rfl
          | true => exact absurd (show b11 = true from (closed_dep hcl (i := 12) rfl 11 rfl (closed_dep hcl (i := 15) rfl 12 rfl (closed_dep hcl (i := 16) rfl 15 rfl (closed_dep hcl (i := 19) rfl 16 rfl (closed_dep hcl (i := 22) rfl 19 rfl h)))))) (by rw [hfl]; exact Bool.false_ne_true)
        clear hi hcl
        obtain rfl : b22 = false := hS
        obtain rfl := HRR.out.h10 k10
        refine wpOp_step rfl (fun K' hK => ?_)
        go_simp
        have R := HRR.out
        exact hK _ _ ⟨b0, b1, b2, b3, b4, b5, b6, b7, b8, b9, b10, true, b12, b13, b14, b15, b16, b17, b18, b19, b20, b21, false, _, _, _, _, _, _, _, _, _, _, _, _, _, _, _, _, _, _, _, _, _, _, gq, rfl, rfl, ⟨R.sz, R.below, (fun h => by cases h), R.r1, R.r8, R.r16, R.r19, R.h18, R.h0, R.h2, R.h3, R.h4, R.h5, R.h6, R.h7, R.h9, R.h10, (fun _ => rfl), R.h12, R.h13, R.h14, R.h15, R.h17, R.h20, R.h21⟩⟩
      · have hfl : b12 = false := (ready_free hi).2
        have k11 : b11 = true := ready_dep hi rfl 11 rfl
        have hS : b22 = false := by
          cases h : b22 with
          | false => rfl
          | true => exact absurd (show b12 = true from (closed_dep hcl (i := 15) rfl 12 rfl (closed_dep hcl (i := 16) rfl 15 rfl (closed_dep hcl (i := 19) rfl 16 rfl (closed_dep hcl (i := 22) rfl 19 rfl h))))) (by rw [hfl]; exact Bool.false_ne_true)
        clear hi hcl
        obtain rfl : b22 = false := hS
        obtain rfl := HRR.out.h11 k11
        obtain ⟨_, hcg, _⟩ := (HC3.out.below (HRR.out.below rfl)).cells
        refine wpOp_step rfl (fun K' hK => ?_)
        go_simp
        have R := HRR.out
        exact hK _ _ ⟨b0, b1, b2, b3, b4, b5, b6, b7, b8, b9, b10, b11, true, b13, b14, b15, b16, b17, b18, b19, b20, b21, false, _, _, _, _, _, _, _, _, _, _, _, _, _, _, _, _, _, _, _, _, _, _, gq, rfl, rfl, ⟨R.sz, R.below, (fun h => by cases h), R.r1, R.r8, R.r16, R.r19, R.h18, R.h0, R.h2, R.h3, R.h4, R.h5, R.h6, R.h7, R.h9, R.h10, R.h11, (fun _ => rfl), R.h13, R.h14, R.h15, R.h17, R.h20, R.h21⟩⟩
      · have hfl : b13 = false := (ready_free hi).2
        have hS : b22 = false := by
          cases h : b22 with
          | false => rfl
          | true => exact absurd (show b13 = true from (closed_dep hcl (i := 14) rfl 13 rfl (closed_dep hcl (i := 15) rfl 14 rfl (closed_dep hcl (i := 16) rfl 15 rfl (closed_dep hcl (i := 19) rfl 16 rfl (closed_dep hcl (i := 22) rfl 19 rfl h)))))) (by rw [hfl]; exact Bool.false_ne_true)
        clear hi hcl
        obtain rfl : b22 = false := hS
        refine wpOp_step rfl (fun K' hK => ?_)
        go_simp
        have R := HRR.out
        exact hK _ _ ⟨b0, b1, b2, b3, b4, b5, b6, b7, b8, b9, b10, b11, b12, true, b14, b15, b16, b17, b18, b19, b20, b21, false, _, _, _, _, _, _, _, _, _, _, _, _, _, _, _, _, _, _, _, _, _, _, gq, rfl, rfl, ⟨R.sz, R.below, (fun h => by cases h), R.r1, R.r8, R.r16, R.r19, R.h18, R.h0, R.h2, R.h3, R.h4, R.h5, R.h6, R.h7, R.h9, R.h10, R.h11, R.h12, (fun _ => rfl), R.h14, R.h15, R.h17, R.h20, R.h21⟩⟩
      · have hfl : b14 = false := (ready_free hi).2
        have k13 : b13 = true := ready_dep hi rfl 13 rfl
        have hS : b22 = false := by
          cases h : b22 with
          | false => rfl
          | true => exact absurd (show b14 = true from (closed_dep hcl (i := 15) rfl 14 rfl (closed_dep hcl (i := 16) rfl 15 rfl (closed_dep hcl (i := 19) rfl 16 rfl (closed_dep hcl (i := 22) rfl 19 rfl h))))) (by rw [hfl]; exact Bool.false_ne_true)
        clear hi hcl
        obtain rfl : b22 = false := hS
        obtain rfl := HRR.out.h13 k13
        refine wpOp_step rfl (fun K' hK => ?_)
        go_simp
        have R := HRR.out
        exact hK _ _ ⟨b0, b1, b2, b3, b4, b5, b6, b7, b8, b9, b10, b11, b12, b13, true, b15, b16, b17, b18, b19, b20, b21, false, _, _, _, _, _, _, _, _, _, _, _, _, _, _, _, _, _, _, _, _, _, _, gq, rfl, rfl, ⟨R.sz, R.below, (fun h => by cases h), R.r1, R.r8, R.r16, R.r19, R.h18, R.h0, R.h2, R.h3, R.h4, R.h5, R.h6, R.h7, R.h9, R.h10, R.h11, R.h12, R.h13, (fun _ => rfl), R.h15, R.h17, R.h20, R.h21⟩⟩
      · have hfl : b15 = false := (ready_free hi).2
        have k12 : b12 = true := ready_dep hi rfl 12 rfl
        have k14 : b14 = true := ready_dep hi rfl 14 rfl
        have hS : b22 = false := by
          cases h : b22 with
          | false => rfl
          | true => exact absurd (show b15 = true from (closed_dep hcl (i := 16) rfl 15 rfl (closed_dep hcl (i := 19) rfl 16 rfl (closed_dep hcl (i := 22) rfl 19 rfl h)))) (by rw [hfl]; exact Bool.false_ne_true)
        clear hi hcl
        obtain rfl : b22 = false := hS
        obtain rfl := HRR.out.h12 k12
        obtain rfl := HRR.out.h14 k14
        refine wpOp_step rfl (fun K' hK => ?_)
        go_simp
        have R := HRR.out
        exact hK _ _ ⟨b0, b1, b2, b3, b4, b5, b6, b7, b8, b9, b10, b11, b12, b13, b14, true, b16, b17, b18, b19, b20, b21, false, _, _, _, _, _, _, _, _, _, _, _, _, _, _, _, _, _, _, _, _, _, _, gq, rfl, rfl, ⟨R.sz, R.below, (fun h => by cases h), R.r1, R.r8, R.r16, R.r19, R.h18, R.h0, R.h2, R.h3, R.h4, R.h5, R.h6, R.h7, R.h9, R.h10, R.h11, R.h12, R.h13, R.h14, (fun _ => rfl), R.h17, R.h20, R.h21⟩⟩
      · have hfl : b16 = false := (ready_free hi).2
        have k8 : b8 = true := ready_dep hi rfl 8 rfl
        have k15 : b15 = true := ready_dep hi rfl 15 rfl
        have hS : b22 = false := by
          cases h : b22 with
          | false => rfl
          | true => exact absurd (show b16 = true from (closed_dep hcl (i := 19) rfl 16 rfl (closed_dep hcl (i := 22) rfl 19 rfl h))) (by rw [hfl]; exact Bool.false_ne_true)
        have z19 : b19 = true → False := fun h => absurd (show b16 = true from (closed_dep hcl (i := 19) rfl 16 rfl h)) (by rw [hfl]; exact Bool.false_ne_true)
        clear hi hcl
        obtain rfl : b22 = false := hS
        obtain rfl := HRR.out.h15 k15
        have HR0 := HRR.out.r8 k8 hfl
        have hbel := HRR.out.below rfl
        have hsz := HRR.out.sz
        obtain ⟨v1, W2, hrun, hr1, hg1⟩ := appendM (c := c0 - (i + 1)) (l.length - (i + 1)) HDL.out HR0 (read_dropA (HC3.out.row.below hbel) HNC.out i) (fun q hq => ⟨Nat.le_trans hbel.size hq, by omega⟩) hbel.size HLN2.out
        have HR1 := Aside0.mk hr1
        have HG1 := Aside0.mk hg1
        have HOK := Aside0.mk HR0.ok
        clear hr1 hg1 HR0 hbel hsz
        refine wpOp_append rfl rfl (.tmp 28) (.tmp 35) 51 rfl rfl rfl hrun ?_
        have R := HRR.out
        exact ⟨b0, b1, b2, b3, b4, b5, b6, b7, b8, b9, b10, b11, b12, b13, b14, b15, true, b17, b18, b19, b20, b21, false, _, _, _, _, _, _, _, _, _, _, _, _, _, _, _, _, _, _, _, _, _, _, gq, rfl, rfl, ⟨(Nat.lt_of_lt_of_le R.sz HG1.out.size), (fun _ => below_grown (R.below rfl) HG1.out (fun q hq => (HOK.out q hq).1) (Nat.le_refl _)), (fun h => by cases h), (fun _ h' => absurd k8 (by rw [h']; exact Bool.false_ne_true)), (fun _ h' => by cases h'), (fun _ _ => HR1.out), (fun h _ => (z19 h).elim), (fun h h' => let ⟨e, q, s⟩ := R.h18 h h'; ⟨e, blk_grown q HG1.out (fun e => (HOK.out _ e.symm).2 rfl), s⟩), R.h0, R.h2, R.h3, R.h4, R.h5, R.h6, R.h7, R.h9, R.h10, R.h11, R.h12, R.h13, R.h14, R.h15, R.h17, R.h20, R.h21⟩⟩
      · have hfl : b17 = false := (ready_free hi).2
        have hS : b22 = false := by
          cases h : b22 with
          | false => rfl
          | true => exact absurd (show b17 = true from (closed_dep hcl (i := 18) rfl 17 rfl (closed_dep hcl (i := 19) rfl 18 rfl (closed_dep hcl (i := 22) rfl 19 rfl h)))) (by rw [hfl]; exact Bool.false_ne_true)
        clear hi hcl
        obtain rfl : b22 = false := hS
        obtain ⟨ck0, ck1, ck2, ck3⟩ := (HX3.out.below (HRR.out.below rfl)).cells
        refine wpOp_step rfl (fun K' hK => ?_)
        go_simp
        have R := HRR.out
        exact hK _ _ ⟨b0, b1, b2, b3, b4, b5, b6, b7, b8, b9, b10, b11, b12, b13, b14, b15, b16, true, b18, b19, b20, b21, false, _, _, _, _, _, _, _, _, _, _, _, _, _, _, _, _, _, _, _, _, _, _, gq, rfl, rfl, ⟨R.sz, R.below, (fun h => by cases h), R.r1, R.r8, R.r16, R.r19, R.h18, R.h0, R.h2, R.h3, R.h4, R.h5, R.h6, R.h7, R.h9, R.h10, R.h11, R.h12, R.h13, R.h14, R.h15, (fun _ => rfl), R.h20, R.h21⟩⟩
      · have hfl : b18 = false := (ready_free hi).2
        have k17 : b17 = true := ready_dep hi rfl 17 rfl
        have hS : b22 = false := by
          cases h : b22 with
          | false => rfl
          | true => exact absurd (show b18 = true from (closed_dep hcl (i := 19) rfl 18 rfl (closed_dep hcl (i := 22) rfl 19 rfl h))) (by rw [hfl]; exact Bool.false_ne_true)
        clear hi hcl
        obtain rfl : b22 = false := hS
        obtain rfl := HRR.out.h17 k17
        refine wpOp_step rfl (fun K' hK => ?_)
        go_simp
        have R := HRR.out
        exact hK _ _ ⟨b0, b1, b2, b3, b4, b5, b6, b7, b8, b9, b10, b11, b12, b13, b14, b15, b16, b17, true, b19, b20, b21, false, _, _, _, _, _, _, _, _, _, _, _, _, _, _, _, _, _, _, _, _, _, _, w'.heap.size, rfl, rfl, ⟨(by rw [World.size_alloc]; exact Nat.lt_succ_self _), (fun _ => below_step (R.below rfl) (below_alloc (Below.refl _ _) _)), (fun h => by cases h), (fun h h' => ((R.r1 h h').mono (fun k hk ho => ⟨ho.1, Nat.ne_of_lt hk⟩)).below (below_alloc (Below.refl _ _) _)), (fun h h' => ((R.r8 h h').mono (fun k hk ho => ⟨ho.1, Nat.ne_of_lt hk⟩)).below (below_alloc (Below.refl _ _) _)), (fun h h' => ((R.r16 h h').mono (fun k hk ho => ⟨ho.1, Nat.ne_of_lt hk⟩)).below (below_alloc (Below.refl _ _) _)), (fun h h' => ((R.r19 h h').mono (fun k hk ho => ⟨ho.1, Nat.ne_of_lt hk⟩)).below (below_alloc (Below.refl _ _) _)), (fun _ _ => ⟨rfl, blk_new _ _, (R.below rfl).size⟩), R.h0, R.h2, R.h3, R.h4, R.h5, R.h6, R.h7, R.h9, R.h10, R.h11, R.h12, R.h13, R.h14, R.h15, R.h17, R.h20, R.h21⟩⟩
      · have hfl : b19 = false := (ready_free hi).2
        have k16 : b16 = true := ready_dep hi rfl 16 rfl
        have k18 : b18 = true := ready_dep hi rfl 18 rfl
        have hS : b22 = false := by
          cases h : b22 with
          | false => rfl
          | true => exact absurd (show b19 = true from (closed_dep hcl (i := 22) rfl 19 rfl h)) (by rw [hfl]; exact Bool.false_ne_true)
        have k8 : b8 = true := closed_dep hcl (i := 16) rfl 8 rfl k16
        clear hi hcl
        obtain rfl : b22 = false := hS
        obtain ⟨ea, hbx, _⟩ := HRR.out.h18 k18 rfl
        subst ea
        have HR0 := HRR.out.r16 k16 hfl
        have hbel := HRR.out.below rfl
        have hsz := HRR.out.sz
        obtain ⟨v1, W2, hrun, hr1, hg1⟩ := append1P HR0 hbx (fun q hq => ⟨Nat.le_trans hbel.size hq, by omega⟩) hbel.size HLN3.out
        have HR1 := Aside0.mk hr1
        have HG1 := Aside0.mk hg1
        have HOK := Aside0.mk HR0.ok
        clear hr1 hg1 HR0 hbel hsz hbx
        refine wpOp_append rfl rfl (.tmp 36) (.tmp 38) 51 rfl rfl rfl hrun ?_
        have R := HRR.out
        exact ⟨b0, b1, b2, b3, b4, b5, b6, b7, b8, b9, b10, b11, b12, b13, b14, b15, b16, b17, b18, true, b20, b21, false, _, _, _, _, _, _, _, _, _, _, _, _, _, _, _, _, _, _, _, _, _, _, gq, rfl, rfl, ⟨(Nat.lt_of_lt_of_le R.sz HG1.out.size), (fun _ => below_grown (R.below rfl) HG1.out (fun q hq => (HOK.out q hq).1) (Nat.le_refl _)), (fun h => by cases h), (fun _ h' => absurd k8 (by rw [h']; exact Bool.false_ne_true)), (fun _ h' => absurd k16 (by rw [h']; exact Bool.false_ne_true)), (fun _ h' => by cases h'), (fun _ _ => HR1.out), (fun h h' => let ⟨e, q, s⟩ := R.h18 h h'; ⟨e, blk_grown q HG1.out (fun e => (HOK.out _ e.symm).2 rfl), s⟩), R.h0, R.h2, R.h3, R.h4, R.h5, R.h6, R.h7, R.h9, R.h10, R.h11, R.h12, R.h13, R.h14, R.h15, R.h17, R.h20, R.h21⟩⟩
      · have hfl : b20 = false := (ready_free hi).2
        have k0 : b0 = true := ready_dep hi rfl 0 rfl
        have hS : b22 = false := by
          cases h : b22 with
          | false => rfl
          | true => exact absurd (show b20 = true from (closed_dep hcl (i := 21) rfl 20 rfl (closed_dep hcl (i := 22) rfl 21 rfl h))) (by rw [hfl]; exact Bool.false_ne_true)
        clear hi hcl
        obtain rfl : b22 = false := hS
        obtain rfl := HRR.out.h0 k0
        refine wpOp_step rfl (fun K' hK => ?_)
        go_simp
        have R := HRR.out
        exact hK _ _ ⟨b0, b1, b2, b3, b4, b5, b6, b7, b8, b9, b10, b11, b12, b13, b14, b15, b16, b17, b18, b19, true, b21, false, _, _, _, _, _, _, _, _, _, _, _, _, _, _, _, _, _, _, _, _, _, _, gq, rfl, rfl, ⟨R.sz, R.below, (fun h => by cases h), R.r1, R.r8, R.r16, R.r19, R.h18, R.h0, R.h2, R.h3, R.h4, R.h5, R.h6, R.h7, R.h9, R.h10, R.h11, R.h12, R.h13, R.h14, R.h15, R.h17, (fun _ => rfl), R.h21⟩⟩
      · have hfl : b21 = false := (ready_free hi).2
        have k20 : b20 = true := ready_dep hi rfl 20 rfl
        have hS : b22 = false := by
          cases h : b22 with
          | false => rfl
          | true => exact absurd (show b21 = true from (closed_dep hcl (i := 22) rfl 21 rfl h)) (by rw [hfl]; exact Bool.false_ne_true)
        clear hi hcl
        obtain rfl : b22 = false := hS
        obtain rfl := HRR.out.h20 k20
        refine wpOp_step rfl (fun K' hK => ?_)
        go_simp
        have R := HRR.out
        exact hK _ _ ⟨b0, b1, b2, b3, b4, b5, b6, b7, b8, b9, b10, b11, b12, b13, b14, b15, b16, b17, b18, b19, b20, true, false, _, _, _, _, _, _, _, _, _, _, _, _, _, _, _, _, _, _, _, _, _, _, gq, rfl, rfl, ⟨R.sz, R.below, (fun h => by cases h), R.r1, R.r8, R.r16, R.r19, R.h18, R.h0, R.h2, R.h3, R.h4, R.h5, R.h6, R.h7, R.h9, R.h10, R.h11, R.h12, R.h13, R.h14, R.h15, R.h17, R.h20, (fun _ => rfl)⟩⟩
      · have hfl : b22 = false := (ready_free hi).2
        have k19 : b19 = true := ready_dep hi rfl 19 rfl
        have k21 : b21 = true := ready_dep hi rfl 21 rfl
        have k16 : b16 = true := closed_dep hcl (i := 19) rfl 16 rfl k19
        have k8 : b8 = true := closed_dep hcl (i := 16) rfl 8 rfl k16
        clear hi hcl
        obtain rfl := HRR.out.h21 k21
        obtain ⟨A22, c22, hA22⟩ := Kd.R_slice (HRR.out.r19 k19 hfl).R
        obtain ⟨n22, hn22⟩ : ∃ z, (l.take i ++ l.drop (i + 1) ++ [(k, x)]).length = z := ⟨_, rfl⟩
        rw [hn22] at hA22
        clear hn22
        subst hA22
        obtain ⟨_, hcg, hfg⟩ := (HC3.out.below (HRR.out.below hfl)).cells
        refine wpOp_step rfl (fun K' hK => ?_)
        go_simp
        have R := HRR.out
        exact hK _ _ ⟨b0, b1, b2, b3, b4, b5, b6, b7, b8, b9, b10, b11, b12, b13, b14, b15, b16, b17, b18, b19, b20, b21, true, _, _, _, _, _, _, _, _, _, _, _, _, _, _, _, _, _, _, _, _, _, _, gq, rfl, rfl, ⟨(by have h := R.sz; simpa [World.setCell] using h), (fun h => by cases h), (fun _ => ⟨w', R.below hfl, R.r19 k19 hfl, rfl⟩), (fun _ h' => absurd k8 (by rw [h']; exact Bool.false_ne_true)), (fun _ h' => absurd k16 (by rw [h']; exact Bool.false_ne_true)), (fun _ h' => absurd k19 (by rw [h']; exact Bool.false_ne_true)), (fun _ h' => by cases h'), (fun _ h' => by cases h'), R.h0, R.h2, R.h3, R.h4, R.h5, R.h6, R.h7, R.h9, R.h10, R.h11, R.h12, R.h13, R.h14, R.h15, R.h17, R.h20, R.h21⟩⟩
    case done =>
      rintro lb a w' ⟨b0, b1, b2, b3, b4, b5, b6, b7, b8, b9, b10, b11, b12, b13, b14, b15, b16, b17, b18, b19, b20, b21, b22, a20, a21, a22, a23, a24, a25, a26, a27, a28, a29, a30, a31, a32, a33, a34, a35, a36, a37, a38, a39, a40, a41, gq, rfl, rfl, hR⟩ hi
      have hd := all_done rfl (by kernel_rfl) hi
      clear hi
      obtain rfl : b0 = true := hd 0 (by decide)
      obtain rfl : b1 = true := hd 1 (by decide)
      obtain rfl : b2 = true := hd 2 (by decide)
      obtain rfl : b3 = true := hd 3 (by decide)
      obtain rfl : b4 = true := hd 4 (by decide)
      obtain rfl : b5 = true := hd 5 (by decide)
      obtain rfl : b6 = true := hd 6 (by decide)
      obtain rfl : b7 = true := hd 7 (by decide)
      obtain rfl : b8 = true := hd 8 (by decide)
      obtain rfl : b9 = true := hd 9 (by decide)
      obtain rfl : b10 = true := hd 10 (by decide)
      obtain rfl : b11 = true := hd 11 (by decide)
      obtain rfl : b12 = true := hd 12 (by decide)
      obtain rfl : b13 = true := hd 13 (by decide)
      obtain rfl : b14 = true := hd 14 (by decide)
      obtain rfl : b15 = true := hd 15 (by decide)
      obtain rfl : b16 = true := hd 16 (by decide)
      obtain rfl : b17 = true := hd 17 (by decide)
      obtain rfl : b18 = true := hd 18 (by decide)
      obtain rfl : b19 = true := hd 19 (by decide)
      obtain rfl : b20 = true := hd 20 (by decide)
      obtain rfl : b21 = true := hd 21 (by decide)
      obtain rfl : b22 = true := hd 22 (by decide)
      obtain ⟨w0, hbel, hrow, rfl⟩ := hR.fin rfl
      have HRW := Aside0.mk hrow
      have HBW := Aside0.mk hbel
      have hneg : w2.heap.size ≠ g := fun e => HC3.out.okg.2 e.symm
      have HX4 : Aside0 (BoxP (w0.setCell ⟨g, 1, none⟩ a39) w2.heap.size (k, x)) := ⟨(HX3.out.below hbel).kept (Kept.set (ok := fun q => q = g) rfl) hneg⟩
      clear hR hd hrow hbel hneg
      dsimp only
      obtain ⟨_, _, _, ck3⟩ := HX4.out.cells
      go_wp2
      go_ret2
      have hC := HC3.out.below HBW.out
      have hokg := HC3.out.okg
      refine ⟨rfl, ((Kept.of_below ok HB3.out).trans (Kept.of_below ok HBW.out)).trans (Kept.set hokg.1.1), a39, ?_⟩
      rw [HG1.out]
      refine ⟨blk_put hC.blk 1 _ rfl, ?_, hokg.1.1, HC3.out.geg⟩
      have hs3 := HS3.out
      have hb2 := HB2.out.size
      have hbs := HBS0.out
      have hgl := HC3.out.lt.1
      refine ((?_ : RowP w0 base _ a39 _).move (fun q hq ho => Below.heap_setCell _ _ _ q ho.2))
      refine ⟨own_weaken HRW.out.own (by omega), fun q hq => ?_⟩
      have h1 := HRW.out.ok q hq
      exact ⟨HFR0.out q (by omega), by omega⟩
end Go.Proofs.Ytlpbfhbfaphicaa.C19
