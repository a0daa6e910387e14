/- Layer 19 (cache): the document's Put, walked. -/
import Derived.Test.YtlpbfhbfaphicaaRgt19
namespace Go.Proofs.Ytlpbfhbfaphicaa.C19
open Go Go.RowKit Go.Maps Go.Lib Go.Sort Go.Proofs.YtlpbfhbfaphicaaW.PrintWords Go.Proofs.YtlpbfhbfaphicaaW.PrintLast Go.Proofs.YtlpbfhbfaphicaaW.PrintMore Go.Proofs.Ytlpbfhbfaphicaa.XA

set_option linter.unusedVariables false
structure RQ (g gr i c0 : Nat) (l : List Pr) (p : Pr) (w1 w' : World) (b0 b1 b2 b3 b4 b5 b6 b7 b8 b9 b10 b11 b12 b13 b14 b15 b16 b17 b18 b19 : Bool) (a17 a18 a19 a20 a21 a22 a23 a24 a25 a26 a27 a28 a29 a30 a31 a32 a33 a34 a35 : Value) (gq : Nat) : Prop where
  sz : gq < w'.heap.size
  below : b19 = false → Below w1.heap.size w1 w'
  fin : b19 = true → ∃ w0, Below w1.heap.size w1 w0 ∧ RowP w0 w1.heap.size (fun q => w1.heap.size ≤ q ∧ q ≠ gq) a33 (l.take i ++ l.drop (i + 1)) ∧ w' = w0.setCell ⟨g, 1, none⟩ a33
  r1 : b1 = true → b8 = false → RowP w' w1.heap.size (fun q => w1.heap.size ≤ q ∧ q ≠ gq) a18 ([] : List Pr)
  r8 : b8 = true → b16 = false → RowP w' w1.heap.size (fun q => w1.heap.size ≤ q ∧ q ≠ gq) a25 (l.take i)
  r16 : b16 = true → b19 = false → RowP w' w1.heap.size (fun q => w1.heap.size ≤ q ∧ q ≠ gq) a33 (l.take i ++ l.drop (i + 1))
  h0 : b0 = true → a17 = .pointer (some ⟨g, 0, none⟩)
  h2 : b2 = true → a19 = .pointer (some ⟨g, 0, none⟩)
  h3 : b3 = true → a20 = .pointer (some ⟨g, 0, none⟩)
  h4 : b4 = true → a21 = .pointer (some ⟨g, 1, none⟩)
  h5 : b5 = true → a22 = .slice (some ⟨gr, 0, none⟩) l.length c0
  h6 : b6 = true → a23 = .int .i64 (i : Int)
  h7 : b7 = true → a24 = .slice (some ⟨gr, 0, none⟩) i c0
  h9 : b9 = true → a26 = .pointer (some ⟨g, 0, none⟩)
  h10 : b10 = true → a27 = .pointer (some ⟨g, 0, none⟩)
  h11 : b11 = true → a28 = .pointer (some ⟨g, 1, none⟩)
  h12 : b12 = true → a29 = .slice (some ⟨gr, 0, none⟩) l.length c0
  h13 : b13 = true → a30 = .int .i64 (i : Int)
  h14 : b14 = true → a31 = .int .i64 ((i : Int) + 1)
  h15 : b15 = true → a32 = .slice (some (dropA gr i c0)) (l.length - (i + 1)) (c0 - (i + 1))
  h17 : b17 = true → a34 = .pointer (some ⟨g, 0, none⟩)
  h18 : b18 = true → a35 = .pointer (some ⟨g, 1, none⟩)
def IQ (mk : Value → Value → Value → Value → Value → Value → Value → Value → Value → Value → Value → Value → Value → Value → Value → Value → Value → Value → Value → Act) (g gr i c0 : Nat) (l : List Pr) (p : Pr) (w1 : World) (lb : Array Bool) (a : Act) (w' : World) : Prop :=
  ∃ b0 b1 b2 b3 b4 b5 b6 b7 b8 b9 b10 b11 b12 b13 b14 b15 b16 b17 b18 b19 : Bool, ∃ a17 a18 a19 a20 a21 a22 a23 a24 a25 a26 a27 a28 a29 a30 a31 a32 a33 a34 a35 : Value, ∃ gq : Nat, lb = [b0, b1, b2, b3, b4, b5, b6, b7, b8, b9, b10, b11, b12, b13, b14, b15, b16, b17, b18, b19].toArray ∧ a = mk a17 a18 a19 a20 a21 a22 a23 a24 a25 a26 a27 a28 a29 a30 a31 a32 a33 a34 a35 ∧ RQ g gr i c0 l p w1 w' b0 b1 b2 b3 b4 b5 b6 b7 b8 b9 b10 b11 b12 b13 b14 b15 b16 b17 b18 b19 a17 a18 a19 a20 a21 a22 a23 a24 a25 a26 a27 a28 a29 a30 a31 a32 a33 a34 a35 gq
structure RV (ok : Nat → Prop) (base g kb : Nat) (room : Int) (v : Value) (P : List Pr) (k : K3) (x : Int) (w1 w' : World) (b0 b1 b2 b3 b4 b5 b6 b7 b8 b9 b10 b11 b12 : Bool) (a56 a57 a58 a59 a60 a61 a62 a63 a64 a65 a66 a67 : Value) (gl : Nat) : Prop where
  kept : Kept ok w1 w'
  hg : w'.heap[g]? = some (.cells #[.int .i64 room, if b12 then a65 else v] 53 (0, 0))
  hkey : BoxR w' kb k
  row0 : b9 = false → RowP w' base (fun q => ok q ∧ q ≠ g) v P
  row1 : b9 = true → RowP w' base (fun q => ok q ∧ q ≠ g) a65 (P ++ [(k, x)])
  h8 : b8 = true → a64 = .slice (some ⟨gl, 0, none⟩) 1 1 ∧ w1.heap.size ≤ gl ∧ BoxP w' gl (k, x)
  h0 : b0 = true → a56 = .pointer (some ⟨g, 0, none⟩)
  h1 : b1 = true → a57 = .pointer (some ⟨g, 0, none⟩)
  h2 : b2 = true → a58 = .pointer (some ⟨g, 0, none⟩)
  h3 : b3 = true → a59 = .pointer (some ⟨g, 1, none⟩)
  h4 : b4 = true → a60 = v
  h5 : b5 = true → a61 = kv k
  h6 : b6 = true → a62 = .int .i64 x
  h7 : b7 = true → a63 = pv (k, x)
  h10 : b10 = true → a66 = .pointer (some ⟨g, 0, none⟩)
  h11 : b11 = true → a67 = .pointer (some ⟨g, 1, none⟩)
def IV (mk : Value → Value → Value → Value → Value → Value → Value → Value → Value → Value → Value → Value → Act) (ok : Nat → Prop) (base g kb : Nat) (room : Int) (v : Value) (P : List Pr) (k : K3) (x : Int) (w1 : World) (lb : Array Bool) (a : Act) (w' : World) : Prop :=
  ∃ b0 b1 b2 b3 b4 b5 b6 b7 b8 b9 b10 b11 b12 : Bool, ∃ a56 a57 a58 a59 a60 a61 a62 a63 a64 a65 a66 a67 : Value, ∃ gl : Nat, lb = [b0, b1, b2, b3, b4, b5, b6, b7, b8, b9, b10, b11, b12].toArray ∧ a = mk a56 a57 a58 a59 a60 a61 a62 a63 a64 a65 a66 a67 ∧ RV ok base g kb room v P k x w1 w' b0 b1 b2 b3 b4 b5 b6 b7 b8 b9 b10 b11 b12 a56 a57 a58 a59 a60 a61 a62 a63 a64 a65 a66 a67 gl
/-- An operation that appends, in a region that keeps its order. -/
theorem wpList_append_run {P : Program} {ops : Array Oper} {o : Oper} {rest : List Oper} {a : Act} {w w' : World} {Q : Exit → Act → World → Prop} (hg : o.guard = none) (s x : Operand) (t : TypeId)
    (ho : o.op = .call { callee := .builtin .append, args := #[s, x], argTypes := #[t, t] }) {vs vx v : Value} (hs : a.eval s = vs) (hx : a.eval x = vx) (hr : ∀ ty, (Builtin.append_ #[t, t] ty #[vs, vx]).run P w = .ok v w') (h : wpList P ops Q rest (a.put o.dst v) w') : wpList P ops Q (o :: rest) a w :=
  wpList_step fun K hK => step_run hg s x t ho hs hx hr (hK _ _ h)
set_option maxHeartbeats 4000000 in
set_option maxRecDepth 100000 in
theorem rput_calls {w : World} {base g : Nat} {ok : Nat → Prop} {room x : Int} {v : Value} {l : List Pr} {k : K3} (H : CRef w base ok g room v l) (hn : (l.map Prod.fst).Nodup) (hl : l.length ≤ 1000) (hlen : (l.length : Int) ≤ room) (hfresh : ∀ q, w.heap.size ≤ q → ok q) (hbase : base ≤ w.heap.size) :
    Calls Try.prog 21 #[.pointer (some ⟨g, 0, none⟩), kv k, .int .i64 x] w fun e w' => e = .returned (.tuple #[]) ∧ Kept ok w w' ∧ ∃ v', CRef w' base ok g room v' (putP room l k x) := by
  have HH := Aside0.mk H
  have HN := Aside0.mk hn
  have HL := Aside0.mk hl
  have HLE := Aside0.mk hlen
  have HFR0 := Aside0.mk hfresh
  have HBS0 := Aside0.mk hbase
  clear hn hl hlen hfresh hbase H
  obtain ⟨l1, hl1⟩ : ∃ z, putP room l k x = z := ⟨_, rfl⟩
  obtain ⟨lk, hlk⟩ : ∃ z, lookP l k = z := ⟨_, rfl⟩
  rw [hl1]
  have HL1 := Aside0.mk hl1
  have HLK := Aside0.mk hlk
  clear hl1 hlk
  go_enter Try.func21, Try.ntmps21
  go_upto_region 1 with (fail)
  have hb0 : Below w.heap.size w (w.alloc (.cells (kc k).toArray 37 (0, 0))) := below_alloc (Below.refl _ _) _
  have HC : Aside0 (CRef (w.alloc (.cells (kc k).toArray 37 (0, 0))) base (fun q => ok q ∧ q ≠ w.heap.size) g room v l) := ⟨(HH.out.mono (fun q hq ho => ⟨ho, Nat.ne_of_lt hq⟩)).below hb0⟩
  have HK : Aside0 (BoxR (w.alloc (.cells (kc k).toArray 37 (0, 0))) w.heap.size k) := ⟨blk_new _ _⟩
  have HB0 : Aside0 (Below w.heap.size w (w.alloc (.cells (kc k).toArray 37 (0, 0)))) := ⟨hb0⟩
  have HSZ : Aside0 (w.heap.size + 1 ≤ (w.alloc (.cells (kc k).toArray 37 (0, 0))).heap.size) := ⟨by rw [World.size_alloc]; exact Nat.le_refl _⟩
  clear hb0 HH
  generalize (w.alloc (Obj.cells #[.int .u64 k.f0, .int .i64 k.f1, .int .i64 k.f2] 37)) = W0 at HC HK HB0 HSZ ⊢
  obtain ⟨xc0, _, _⟩ := HC.out.cells
  by_cases c0 : room = 0
  · subst c0
    have hP : l1 = l := by
      have h1 := HL1.out
      unfold putP at h1
      rw [if_pos rfl] at h1
      exact h1.symm
    have HPP := Aside0.mk hP
    clear hP
    go_wp2
    refine bodyPost_ret (results_none rfl _ _ _) rfl ?_
    rw [HPP.out]
    exact ⟨rfl, Kept.of_below ok HB0.out, v, HC.out.mono (fun q _ ho => ho.1)⟩
  have cb0 : (room == 0) = false := by simpa using c0
  have HC0 := Aside0.mk c0
  clear c0
  go_upto_region 2 with (fail)
  clear xc0
  obtain ⟨xk0, xk1, xk2⟩ := HK.out.cells
  obtain ⟨rr, hrr⟩ : ∃ rr, AtR l k rr := by
    cases hq : lookP l k with
    | none => exact ⟨-1, .inr ⟨rfl, look_no hq⟩⟩
    | some y =>
      obtain ⟨i, hi, hpi, hfirst⟩ := look_idx hq
      exact ⟨(i : Int), .inl ⟨i, rfl, hi, by rw [hpi], hfirst⟩⟩
  have HAR := Aside0.mk hrr
  have CA := Aside0.mk (at_calls (k := k) HC.out HL.out hrr)
  clear hrr
  go_upto_region 3 with (go_at_call 31; (with_reducible refine CA.out.mono ?_); rintro e w2 ⟨rfl, hb⟩; have HB := Aside0.mk hb; clear hb)
  have HC2 := Aside0.mk (HC.out.below HB.out)
  have HK2 := Aside0.mk (HK.out.below HB.out)
  have HS2 : Aside0 (w.heap.size + 1 ≤ w2.heap.size) := ⟨Nat.le_trans HSZ.out HB.out.size⟩
  have HB2 := Aside0.mk (below_step HB0.out HB.out)
  clear HC HK HSZ HB0 HB CA xk0 xk1 xk2
  obtain ⟨A0, c0, hv⟩ := Kd.R_slice HC2.out.row.R
  subst hv
  go_upto_if 16 with (fail)
  go_cut [] (fun wc => ∃ (v9 : Value) (P9 : List Pr), Aside0 (Kept (fun q => ok q ∧ q ≠ w.heap.size) w2 wc) ∧ Aside0 (CRef wc base (fun q => ok q ∧ q ≠ w.heap.size) g room v9 P9) ∧ Aside0 (l1 = P9 ++ [(k, x)] ∧ P9.length ≤ 1000))
  case first =>
    obtain ⟨hn0, hnc0, _⟩ := Kd.R_reads' HC2.out.row.R
    have HNC := Aside0.mk hnc0
    cases lk with
    | some y =>
      obtain ⟨i, hi, hpi, hfirst⟩ := look_idx HLK.out
      have hri : rr = (i : Int) := by
        rcases HAR.out with ⟨i', e, h1, h2, h3⟩ | ⟨_, h3⟩
        · rcases Nat.lt_trichotomy i i' with c | c | c
          · exact absurd (by rw [hpi]) (h3 i c)
          · rw [e, c]
          · exact absurd h2 (hfirst i' c)
        · exact absurd (by rw [hpi]) (h3 i hi)
      subst hri
      have hg1 : l1 = l.take i ++ l.drop (i + 1) ++ [(k, x)] := by
        have h1 := HL1.out
        unfold putP at h1
        rw [if_neg HC0.out, HLK.out] at h1
        rw [del_take l i HN.out hi (by rw [hpi])]
        exact h1.symm
      have HG1 := Aside0.mk hg1
      obtain ⟨gr, cr, hv, _, hgr, _⟩ := Kd.R_form HC2.out.row.R (by omega)
      injection hv with hA0 _ hcr
      subst hA0
      subst hcr
      have cb0 : (0 : Int) ≤ (i : Int) := by omega
      have dge : decide ((0 : Int) ≤ (i : Int)) = true := decide_eq_true cb0
      have hA' := dropA_if gr i c0
      have hic : i ≤ c0 := by omega
      have hjc : i + 1 ≤ c0 := by omega
      have hb1 : (0 : Int) ≤ (i : Int) + 1 := by omega
      have hb2 : (i : Int) + 1 ≤ (l.length : Int) := by omega
      have wi : IntKind.i64.wrap ((i : Int) + 1) = (i : Int) + 1 := by have := HL.out; rw [i64_w]; unfold wrap64; omega
      have HTL : Aside0 ((l.take i).length = i) := ⟨by rw [List.length_take]; omega⟩
      have HDL : Aside0 ((l.drop (i + 1)).length = l.length - (i + 1)) := ⟨List.length_drop⟩
      have HLN1 : Aside0 (([] : List Pr).length + (l.take i).length ≤ 100000) := ⟨by have h1 := HTL.out; have h2 := HL.out; rw [h1]; show 0 + i ≤ _; omega⟩
      have HLN2 : Aside0 ((l.take i).length + (l.drop (i + 1)).length ≤ 100000) := ⟨by have h1 := HTL.out; have h2 := HL.out; have h3 := HDL.out; omega⟩
      have HLN3 : Aside0 ((l.take i ++ l.drop (i + 1)).length ≤ 1000) := ⟨by have h1 := HTL.out; have h2 := HL.out; have h3 := HDL.out; rw [List.length_append]; omega⟩
      have HC3 := HC2
      clear hnc0 hn0 hi hpi hfirst hg1
      go_upto_region 4 with (fail)
      refine wp_region_inv2 (IQ (fun a17 a18 a19 a20 a21 a22 a23 a24 a25 a26 a27 a28 a29 a30 a31 a32 a33 a34 a35 => { tmps := #[.pointer (some ⟨g, 0, none⟩), kv k, .int .i64 x, undef, .pointer (some ⟨w.heap.size, 0, none⟩), undef, .int .i64 (i : Int), .pointer (some ⟨g, 0, none⟩), .pointer (some ⟨g, 0, none⟩), .pointer (some ⟨g, 0, none⟩), .int .i64 room, .bool false, .pointer (some ⟨g, 0, none⟩), .agg #[.int .u64 k.f0, .int .i64 k.f1, .int .i64 k.f2], .int .i64 (i : Int), .int .i64 (i : Int), .bool true, a17, a18, a19, a20, a21, a22, a23, a24, a25, a26, a27, a28, a29, a30, a31, a32, a33, a34, a35, undef, undef, undef, undef, undef, undef, undef, undef, undef, undef, undef, undef, undef, undef, undef, undef, undef, undef, undef, undef, undef, undef, undef, undef, undef, undef, undef, undef, undef, undef, undef, undef], defers := [] }) g gr i c0 l (k, x) w2) (by kernel_rfl) ?start ?step ?done
      case start =>
        exact ⟨false, false, false, false, false, false, false, false, false, false, false, false, false, false, false, false, false, false, false, false, undef, undef, undef, undef, undef, undef, undef, undef, undef, undef, undef, undef, undef, undef, undef, undef, undef, undef, undef, g, rfl, rfl, ⟨HC3.out.lt.1, (fun _ => below_drew1 (Below.refl _ _)), (fun h => by cases h), (fun h => by cases h), (fun h => by cases h), (fun h => by cases h), (fun h => by cases h), (fun h => by cases h), (fun h => by cases h), (fun h => by cases h), (fun h => by cases h), (fun h => by cases h), (fun h => by cases h), (fun h => by cases h), (fun h => by cases h), (fun h => by cases h), (fun h => by cases h), (fun h => by cases h), (fun h => by cases h), (fun h => by cases h), (fun h => by cases h), (fun h => by cases h)⟩⟩
      case step =>
        rintro lb a w' q ⟨b0, b1, b2, b3, b4, b5, b6, b7, b8, b9, b10, b11, b12, b13, b14, b15, b16, b17, b18, b19, a17, a18, a19, a20, a21, a22, a23, a24, a25, a26, a27, a28, a29, a30, a31, a32, a33, a34, a35, gq, rfl, rfl, hR⟩ hcl hi
        have HRR := Aside0.mk hR
        clear hR
        have hq : q < 20 := (ready_free hi).1
        have hcase : q = 0 ∨ q = 1 ∨ q = 2 ∨ q = 3 ∨ q = 4 ∨ q = 5 ∨ q = 6 ∨ q = 7 ∨ q = 8 ∨ q = 9 ∨ q = 10 ∨ q = 11 ∨ q = 12 ∨ q = 13 ∨ q = 14 ∨ q = 15 ∨ q = 16 ∨ q = 17 ∨ q = 18 ∨ q = 19 := by omega
        clear hq
        dsimp only
        rcases hcase with rfl | rfl | rfl | rfl | rfl | rfl | rfl | rfl | rfl | rfl | rfl | rfl | rfl | rfl | rfl | rfl | rfl | rfl | rfl | rfl
        · have hfl : b0 = false := (ready_free hi).2
          have hS : b19 = false := by
            cases h : b19 with
            | false => rfl
            | true => exact absurd (show b0 = true from (closed_dep hcl (i := 17) rfl 0 rfl (closed_dep hcl (i := 18) rfl 17 rfl (closed_dep hcl (i := 19) rfl 18 rfl h)))) (by rw [hfl]; exact Bool.false_ne_true)
          clear hi hcl
          obtain rfl : b19 = false := hS
          refine wpOp_step rfl (fun K' hK => ?_)
          go_simp
          have R := HRR.out
          exact hK _ _ ⟨true, b1, b2, b3, b4, b5, b6, b7, b8, b9, b10, b11, b12, b13, b14, b15, b16, b17, b18, false, _, _, _, _, _, _, _, _, _, _, _, _, _, _, _, _, _, _, _, gq, rfl, rfl, ⟨R.sz, R.below, (fun h => by cases h), R.r1, R.r8, R.r16, (fun _ => rfl), R.h2, R.h3, R.h4, R.h5, R.h6, R.h7, R.h9, R.h10, R.h11, R.h12, R.h13, R.h14, R.h15, R.h17, R.h18⟩⟩
        · have hfl : b1 = false := (ready_free hi).2
          have hS : b19 = false := by
            cases h : b19 with
            | false => rfl
            | true => exact absurd (show b1 = true from (closed_dep hcl (i := 8) rfl 1 rfl (closed_dep hcl (i := 16) rfl 8 rfl (closed_dep hcl (i := 19) rfl 16 rfl h)))) (by rw [hfl]; exact Bool.false_ne_true)
          clear hi hcl
          obtain rfl : b19 = false := hS
          refine wpOp_step rfl (fun K' hK => ?_)
          go_simp
          have R := HRR.out
          exact hK _ _ ⟨b0, true, b2, b3, b4, b5, b6, b7, b8, b9, b10, b11, b12, b13, b14, b15, b16, b17, b18, false, _, _, _, _, _, _, _, _, _, _, _, _, _, _, _, _, _, _, _, gq, rfl, rfl, ⟨(Nat.lt_of_lt_of_le R.sz (below_alloc (Below.refl _ _) _).size), (fun _ => below_step (R.below rfl) (below_alloc (Below.refl _ _) _)), (fun h => by cases h), (fun _ _ => RowP.none_ w' _ _ (R.below rfl).size ⟨(R.below rfl).size, Nat.ne_of_gt R.sz⟩), (fun h h' => (R.r8 h h').below (below_alloc (Below.refl _ _) _)), (fun h h' => (R.r16 h h').below (below_alloc (Below.refl _ _) _)), R.h0, R.h2, R.h3, R.h4, R.h5, R.h6, R.h7, R.h9, R.h10, R.h11, R.h12, R.h13, R.h14, R.h15, R.h17, R.h18⟩⟩
        · have hfl : b2 = false := (ready_free hi).2
          have hS : b19 = false := by
            cases h : b19 with
            | false => rfl
            | true => exact absurd (show b2 = true from (closed_dep hcl (i := 3) rfl 2 rfl (closed_dep hcl (i := 4) rfl 3 rfl (closed_dep hcl (i := 5) rfl 4 rfl (closed_dep hcl (i := 7) rfl 5 rfl (closed_dep hcl (i := 8) rfl 7 rfl (closed_dep hcl (i := 16) rfl 8 rfl (closed_dep hcl (i := 19) rfl 16 rfl h)))))))) (by rw [hfl]; exact Bool.false_ne_true)
          clear hi hcl
          obtain rfl : b19 = false := hS
          refine wpOp_step rfl (fun K' hK => ?_)
          go_simp
          have R := HRR.out
          exact hK _ _ ⟨b0, b1, true, b3, b4, b5, b6, b7, b8, b9, b10, b11, b12, b13, b14, b15, b16, b17, b18, false, _, _, _, _, _, _, _, _, _, _, _, _, _, _, _, _, _, _, _, gq, rfl, rfl, ⟨R.sz, R.below, (fun h => by cases h), R.r1, R.r8, R.r16, R.h0, (fun _ => rfl), R.h3, R.h4, R.h5, R.h6, R.h7, R.h9, R.h10, R.h11, R.h12, R.h13, R.h14, R.h15, R.h17, R.h18⟩⟩
        · have hfl : b3 = false := (ready_free hi).2
          have k2 : b2 = true := ready_dep hi rfl 2 rfl
          have hS : b19 = false := by
            cases h : b19 with
            | false => rfl
            | true => exact absurd (show b3 = true from (closed_dep hcl (i := 4) rfl 3 rfl (closed_dep hcl (i := 5) rfl 4 rfl (closed_dep hcl (i := 7) rfl 5 rfl (closed_dep hcl (i := 8) rfl 7 rfl (closed_dep hcl (i := 16) rfl 8 rfl (closed_dep hcl (i := 19) rfl 16 rfl h))))))) (by rw [hfl]; exact Bool.false_ne_true)
          clear hi hcl
          obtain rfl : b19 = false := hS
          obtain rfl := HRR.out.h2 k2
          refine wpOp_step rfl (fun K' hK => ?_)
          go_simp
          have R := HRR.out
          exact hK _ _ ⟨b0, b1, b2, true, b4, b5, b6, b7, b8, b9, b10, b11, b12, b13, b14, b15, b16, b17, b18, false, _, _, _, _, _, _, _, _, _, _, _, _, _, _, _, _, _, _, _, gq, rfl, rfl, ⟨R.sz, R.below, (fun h => by cases h), R.r1, R.r8, R.r16, R.h0, R.h2, (fun _ => rfl), R.h4, R.h5, R.h6, R.h7, R.h9, R.h10, R.h11, R.h12, R.h13, R.h14, R.h15, R.h17, R.h18⟩⟩
        · have hfl : b4 = false := (ready_free hi).2
          have k3 : b3 = true := ready_dep hi rfl 3 rfl
          have hS : b19 = false := by
            cases h : b19 with
            | false => rfl
            | true => exact absurd (show b4 = true from (closed_dep hcl (i := 5) rfl 4 rfl (closed_dep hcl (i := 7) rfl 5 rfl (closed_dep hcl (i := 8) rfl 7 rfl (closed_dep hcl (i := 16) rfl 8 rfl (closed_dep hcl (i := 19) rfl 16 rfl h)))))) (by rw [hfl]; exact Bool.false_ne_true)
          clear hi hcl
          obtain rfl : b19 = false := hS
          obtain rfl := HRR.out.h3 k3
          refine wpOp_step rfl (fun K' hK => ?_)
          go_simp
          have R := HRR.out
          exact hK _ _ ⟨b0, b1, b2, b3, true, b5, b6, b7, b8, b9, b10, b11, b12, b13, b14, b15, b16, b17, b18, false, _, _, _, _, _, _, _, _, _, _, _, _, _, _, _, _, _, _, _, gq, rfl, rfl, ⟨R.sz, R.below, (fun h => by cases h), R.r1, R.r8, R.r16, R.h0, R.h2, R.h3, (fun _ => rfl), R.h5, R.h6, R.h7, R.h9, R.h10, R.h11, R.h12, R.h13, R.h14, R.h15, R.h17, R.h18⟩⟩
        · have hfl : b5 = false := (ready_free hi).2
          have k4 : b4 = true := ready_dep hi rfl 4 rfl
          have hS : b19 = false := by
            cases h : b19 with
            | false => rfl
            | true => exact absurd (show b5 = true from (closed_dep hcl (i := 7) rfl 5 rfl (closed_dep hcl (i := 8) rfl 7 rfl (closed_dep hcl (i := 16) rfl 8 rfl (closed_dep hcl (i := 19) rfl 16 rfl h))))) (by rw [hfl]; exact Bool.false_ne_true)
          clear hi hcl
          obtain rfl : b19 = false := hS
          obtain rfl := HRR.out.h4 k4
          obtain ⟨_, hcg, _⟩ := (HC3.out.below (HRR.out.below rfl)).cells
          refine wpOp_step rfl (fun K' hK => ?_)
          go_simp
          have R := HRR.out
          exact hK _ _ ⟨b0, b1, b2, b3, b4, true, b6, b7, b8, b9, b10, b11, b12, b13, b14, b15, b16, b17, b18, false, _, _, _, _, _, _, _, _, _, _, _, _, _, _, _, _, _, _, _, gq, rfl, rfl, ⟨R.sz, R.below, (fun h => by cases h), R.r1, R.r8, R.r16, R.h0, R.h2, R.h3, R.h4, (fun _ => rfl), R.h6, R.h7, R.h9, R.h10, R.h11, R.h12, R.h13, R.h14, R.h15, R.h17, R.h18⟩⟩
        · have hfl : b6 = false := (ready_free hi).2
          have hS : b19 = false := by
            cases h : b19 with
            | false => rfl
            | true => exact absurd (show b6 = true from (closed_dep hcl (i := 7) rfl 6 rfl (closed_dep hcl (i := 8) rfl 7 rfl (closed_dep hcl (i := 16) rfl 8 rfl (closed_dep hcl (i := 19) rfl 16 rfl h))))) (by rw [hfl]; exact Bool.false_ne_true)
          clear hi hcl
          obtain rfl : b19 = false := hS
          refine wpOp_step rfl (fun K' hK => ?_)
          go_simp
          have R := HRR.out
          exact hK _ _ ⟨b0, b1, b2, b3, b4, b5, true, b7, b8, b9, b10, b11, b12, b13, b14, b15, b16, b17, b18, false, _, _, _, _, _, _, _, _, _, _, _, _, _, _, _, _, _, _, _, gq, rfl, rfl, ⟨R.sz, R.below, (fun h => by cases h), R.r1, R.r8, R.r16, R.h0, R.h2, R.h3, R.h4, R.h5, (fun _ => rfl), R.h7, R.h9, R.h10, R.h11, R.h12, R.h13, R.h14, R.h15, R.h17, R.h18⟩⟩
        · have hfl : b7 = false := (ready_free hi).2
          have k5 : b5 = true := ready_dep hi rfl 5 rfl
          have k6 : b6 = true := ready_dep hi rfl 6 rfl
          have hS : b19 = false := by
            cases h : b19 with
            | false => rfl
            | true => exact absurd (show b7 = true from (closed_dep hcl (i := 8) rfl 7 rfl (closed_dep hcl (i := 16) rfl 8 rfl (closed_dep hcl (i := 19) rfl 16 rfl h)))) (by rw [hfl]; exact Bool.false_ne_true)
          clear hi hcl
          obtain rfl : b19 = false := hS
          obtain rfl := HRR.out.h5 k5
          obtain rfl := HRR.out.h6 k6
          refine wpOp_step rfl (fun K' hK => ?_)
          go_simp
          have R := HRR.out
          exact hK _ _ ⟨b0, b1, b2, b3, b4, b5, b6, true, b8, b9, b10, b11, b12, b13, b14, b15, b16, b17, b18, false, _, _, _, _, _, _, _, _, _, _, _, _, _, _, _, _, _, _, _, gq, rfl, rfl, ⟨R.sz, R.below, (fun h => by cases h), R.r1, R.r8, R.r16, R.h0, R.h2, R.h3, R.h4, R.h5, R.h6, (fun _ => rfl), R.h9, R.h10, R.h11, R.h12, R.h13, R.h14, R.h15, R.h17, R.h18⟩⟩
        · have hfl : b8 = false := (ready_free hi).2
          have k1 : b1 = true := ready_dep hi rfl 1 rfl
          have k7 : b7 = true := ready_dep hi rfl 7 rfl
          have hS : b19 = false := by
            cases h : b19 with
            | false => rfl
            | true => exact absurd (show b8 = true from (closed_dep hcl (i := 16) rfl 8 rfl (closed_dep hcl (i := 19) rfl 16 rfl h))) (by rw [hfl]; exact Bool.false_ne_true)
          have z16 : b16 = true → False := fun h => absurd (show b8 = true from (closed_dep hcl (i := 16) rfl 8 rfl h)) (by rw [hfl]; exact Bool.false_ne_true)
          clear hi hcl
          obtain rfl : b19 = false := hS
          obtain rfl := HRR.out.h7 k7
          have HR0 := HRR.out.r1 k1 hfl
          have hbel := HRR.out.below rfl
          have hsz := HRR.out.sz
          obtain ⟨v1, W2, hrun, hr1, hg1⟩ := appendM (c := c0) i HTL.out HR0 (read_take (HC3.out.row.below hbel) i) (fun q hq => ⟨Nat.le_trans hbel.size hq, by omega⟩) hbel.size HLN1.out
          have HR1 := Aside0.mk hr1
          have HG1 := Aside0.mk hg1
          have HOK := Aside0.mk HR0.ok
          clear hr1 hg1 HR0 hbel hsz
          refine wpOp_append rfl rfl (.tmp 18) (.tmp 24) 51 rfl rfl rfl hrun ?_
          have R := HRR.out
          exact ⟨b0, b1, b2, b3, b4, b5, b6, b7, true, b9, b10, b11, b12, b13, b14, b15, b16, b17, b18, false, _, _, _, _, _, _, _, _, _, _, _, _, _, _, _, _, _, _, _, gq, rfl, rfl, ⟨(Nat.lt_of_lt_of_le R.sz HG1.out.size), (fun _ => below_grown (R.below rfl) HG1.out (fun q hq => (HOK.out q hq).1) (Nat.le_refl _)), (fun h => by cases h), (fun _ h' => by cases h'), (fun _ _ => HR1.out), (fun h _ => (z16 h).elim), R.h0, R.h2, R.h3, R.h4, R.h5, R.h6, R.h7, R.h9, R.h10, R.h11, R.h12, R.h13, R.h14, R.h15, R.h17, R.h18⟩⟩
        · have hfl : b9 = false := (ready_free hi).2
          have hS : b19 = false := by
            cases h : b19 with
            | false => rfl
            | true => exact absurd (show b9 = true from (closed_dep hcl (i := 10) rfl 9 rfl (closed_dep hcl (i := 11) rfl 10 rfl (closed_dep hcl (i := 12) rfl 11 rfl (closed_dep hcl (i := 15) rfl 12 rfl (closed_dep hcl (i := 16) rfl 15 rfl (closed_dep hcl (i := 19) rfl 16 rfl h))))))) (by rw [hfl]; exact Bool.false_ne_true)
          clear hi hcl
          obtain rfl : b19 = false := hS
          refine wpOp_step rfl (fun K' hK => ?_)
          go_simp
          have R := HRR.out
          exact hK _ _ ⟨b0, b1, b2, b3, b4, b5, b6, b7, b8, true, b10, b11, b12, b13, b14, b15, b16, b17, b18, false, _, _, _, _, _, _, _, _, _, _, _, _, _, _, _, _, _, _, _, gq, rfl, rfl, ⟨R.sz, R.below, (fun h => by cases h), R.r1, R.r8, R.r16, R.h0, R.h2, R.h3, R.h4, R.h5, R.h6, R.h7, (fun _ => rfl), R.h10, R.h11, R.h12, R.h13, R.h14, R.h15, R.h17, R.h18⟩⟩
        · have hfl : b10 = false := (ready_free hi).2
          have k9 : b9 = true := ready_dep hi rfl 9 rfl
          have hS : b19 = false := by
            cases h : b19 with
            | false => rfl
            | true => exact absurd (show b10 = true from (closed_dep hcl (i := 11) rfl 10 rfl (closed_dep hcl (i := 12) rfl 11 rfl (closed_dep hcl (i := 15) rfl 12 rfl (closed_dep hcl (i := 16) rfl 15 rfl (closed_dep hcl (i := 19) rfl 16 rfl h)))))) (by rw [hfl]; exact Bool.false_ne_true)
          clear hi hcl
          obtain rfl : b19 = false := hS
          obtain rfl := HRR.out.h9 k9
          refine wpOp_step rfl (fun K' hK => ?_)
          go_simp
          have R := HRR.out
          exact hK _ _ ⟨b0, b1, b2, b3, b4, b5, b6, b7, b8, b9, true, b11, b12, b13, b14, b15, b16, b17, b18, false, _, _, _, _, _, _, _, _, _, _, _, _, _, _, _, _, _, _, _, gq, rfl, rfl, ⟨R.sz, R.below, (fun h => by cases h), R.r1, R.r8, R.r16, R.h0, R.h2, R.h3, R.h4, R.h5, R.h6, R.h7, R.h9, (fun _ => rfl), R.h11, R.h12, R.h13, R.h14, R.h15, R.h17, R.h18⟩⟩
        · have hfl : b11 = false := (ready_free hi).2
          have k10 : b10 = true := ready_dep hi rfl 10 rfl
          have hS : b19 = false := by
            cases h : b19 with
            | false => rfl
            | true => exact absurd (show b11 = true from (closed_dep hcl (i := 12) rfl 11 rfl (closed_dep hcl (i := 15) rfl 12 rfl (closed_dep hcl (i := 16) rfl 15 rfl (closed_dep hcl (i := 19) rfl 16 rfl h))))) (by rw [hfl]; exact Bool.false_ne_true)
          clear hi hcl
          obtain rfl : b19 = false := hS
          obtain rfl := HRR.out.h10 k10
          refine wpOp_step rfl (fun K' hK => ?_)
          go_simp
          have R := HRR.out
          exact hK _ _ ⟨b0, b1, b2, b3, b4, b5, b6, b7, b8, b9, b10, true, b12, b13, b14, b15, b16, b17, b18, false, _, _, _, _, _, _, _, _, _, _, _, _, _, _, _, _, _, _, _, gq, rfl, rfl, ⟨R.sz, R.below, (fun h => by cases h), R.r1, R.r8, R.r16, R.h0, R.h2, R.h3, R.h4, R.h5, R.h6, R.h7, R.h9, R.h10, (fun _ => rfl), R.h12, R.h13, R.h14, R.h15, R.h17, R.h18⟩⟩
        · have hfl : b12 = false := (ready_free hi).2
          have k11 : b11 = true := ready_dep hi rfl 11 rfl
          have hS : b19 = false := by
            cases h : b19 with
            | false => rfl
            | true => exact absurd (show b12 = true from (closed_dep hcl (i := 15) rfl 12 rfl (closed_dep hcl (i := 16) rfl 15 rfl (closed_dep hcl (i := 19) rfl 16 rfl h)))) (by rw [hfl]; exact Bool.false_ne_true)
          clear hi hcl
          obtain rfl : b19 = false := hS
          obtain rfl := HRR.out.h11 k11
          obtain ⟨_, hcg, _⟩ := (HC3.out.below (HRR.out.below rfl)).cells
          refine wpOp_step rfl (fun K' hK => ?_)
          go_simp
          have R := HRR.out
          exact hK _ _ ⟨b0, b1, b2, b3, b4, b5, b6, b7, b8, b9, b10, b11, true, b13, b14, b15, b16, b17, b18, false, _, _, _, _, _, _, _, _, _, _, _, _, _, _, _, _, _, _, _, gq, rfl, rfl, ⟨R.sz, R.below, (fun h => by cases h), R.r1, R.r8, R.r16, R.h0, R.h2, R.h3, R.h4, R.h5, R.h6, R.h7, R.h9, R.h10, R.h11, (fun _ => rfl), R.h13, R.h14, R.h15, R.h17, R.h18⟩⟩
        · have hfl : b13 = false := (ready_free hi).2
          have hS : b19 = false := by
            cases h : b19 with
            | false => rfl
            | true => exact absurd (show b13 = true from (closed_dep hcl (i := 14) rfl 13 rfl (closed_dep hcl (i := 15) rfl 14 rfl (closed_dep hcl (i := 16) rfl 15 rfl (closed_dep hcl (i := 19) rfl 16 rfl h))))) (by rw [hfl]; exact Bool.false_ne_true)
          clear hi hcl
          obtain rfl : b19 = false := hS
          refine wpOp_step rfl (fun K' hK => ?_)
          go_simp
          have R := HRR.out
          exact hK _ _ ⟨b0, b1, b2, b3, b4, b5, b6, b7, b8, b9, b10, b11, b12, true, b14, b15, b16, b17, b18, false, _, _, _, _, _, _, _, _, _, _, _, _, _, _, _, _, _, _, _, gq, rfl, rfl, ⟨R.sz, R.below, (fun h => by cases h), R.r1, R.r8, R.r16, R.h0, R.h2, R.h3, R.h4, R.h5, R.h6, R.h7, R.h9, R.h10, R.h11, R.h12, (fun _ => rfl), R.h14, R.h15, R.h17, R.h18⟩⟩
        · have hfl : b14 = false := (ready_free hi).2
          have k13 : b13 = true := ready_dep hi rfl 13 rfl
          have hS : b19 = false := by
            cases h : b19 with
            | false => rfl
            | true => exact absurd (show b14 = true from (closed_dep hcl (i := 15) rfl 14 rfl (closed_dep hcl (i := 16) rfl 15 rfl (closed_dep hcl (i := 19) rfl 16 rfl h)))) (by rw [hfl]; exact Bool.false_ne_true)
          clear hi hcl
          obtain rfl : b19 = false := hS
          obtain rfl := HRR.out.h13 k13
          refine wpOp_step rfl (fun K' hK => ?_)
          go_simp
          have R := HRR.out
          exact hK _ _ ⟨b0, b1, b2, b3, b4, b5, b6, b7, b8, b9, b10, b11, b12, b13, true, b15, b16, b17, b18, false, _, _, _, _, _, _, _, _, _, _, _, _, _, _, _, _, _, _, _, gq, rfl, rfl, ⟨R.sz, R.below, (fun h => by cases h), R.r1, R.r8, R.r16, R.h0, R.h2, R.h3, R.h4, R.h5, R.h6, R.h7, R.h9, R.h10, R.h11, R.h12, R.h13, (fun _ => rfl), R.h15, R.h17, R.h18⟩⟩
        · have hfl : b15 = false := (ready_free hi).2
          have k12 : b12 = true := ready_dep hi rfl 12 rfl
          have k14 : b14 = true := ready_dep hi rfl 14 rfl
          have hS : b19 = false := by
            cases h : b19 with
            | false => rfl
            | true => exact absurd (show b15 = true from (closed_dep hcl (i := 16) rfl 15 rfl (closed_dep hcl (i := 19) rfl 16 rfl h))) (by rw [hfl]; exact Bool.false_ne_true)
          clear hi hcl
          obtain rfl : b19 = false := hS
          obtain rfl := HRR.out.h12 k12
          obtain rfl := HRR.out.h14 k14
          refine wpOp_step rfl (fun K' hK => ?_)
          go_simp
          have R := HRR.out
          exact hK _ _ ⟨b0, b1, b2, b3, b4, b5, b6, b7, b8, b9, b10, b11, b12, b13, b14, true, b16, b17, b18, false, _, _, _, _, _, _, _, _, _, _, _, _, _, _, _, _, _, _, _, gq, rfl, rfl, ⟨R.sz, R.below, (fun h => by cases h), R.r1, R.r8, R.r16, R.h0, R.h2, R.h3, R.h4, R.h5, R.h6, R.h7, R.h9, R.h10, R.h11, R.h12, R.h13, R.h14, (fun _ => rfl), R.h17, R.h18⟩⟩
        · have hfl : b16 = false := (ready_free hi).2
          have k8 : b8 = true := ready_dep hi rfl 8 rfl
          have k15 : b15 = true := ready_dep hi rfl 15 rfl
          have hS : b19 = false := by
            cases h : b19 with
            | false => rfl
            | true => exact absurd (show b16 = true from (closed_dep hcl (i := 19) rfl 16 rfl h)) (by rw [hfl]; exact Bool.false_ne_true)
          clear hi hcl
          obtain rfl : b19 = false := hS
          obtain rfl := HRR.out.h15 k15
          have HR0 := HRR.out.r8 k8 hfl
          have hbel := HRR.out.below rfl
          have hsz := HRR.out.sz
          obtain ⟨v1, W2, hrun, hr1, hg1⟩ := appendM (c := c0 - (i + 1)) (l.length - (i + 1)) HDL.out HR0 (read_dropA (HC3.out.row.below hbel) HNC.out i) (fun q hq => ⟨Nat.le_trans hbel.size hq, by omega⟩) hbel.size HLN2.out
          have HR1 := Aside0.mk hr1
          have HG1 := Aside0.mk hg1
          have HOK := Aside0.mk HR0.ok
          clear hr1 hg1 HR0 hbel hsz
          refine wpOp_append rfl rfl (.tmp 25) (.tmp 32) 51 rfl rfl rfl hrun ?_
          have R := HRR.out
          exact ⟨b0, b1, b2, b3, b4, b5, b6, b7, b8, b9, b10, b11, b12, b13, b14, b15, true, b17, b18, false, _, _, _, _, _, _, _, _, _, _, _, _, _, _, _, _, _, _, _, gq, rfl, rfl, ⟨(Nat.lt_of_lt_of_le R.sz HG1.out.size), (fun _ => below_grown (R.below rfl) HG1.out (fun q hq => (HOK.out q hq).1) (Nat.le_refl _)), (fun h => by cases h), (fun _ h' => absurd k8 (by rw [h']; exact Bool.false_ne_true)), (fun _ h' => by cases h'), (fun _ _ => HR1.out), R.h0, R.h2, R.h3, R.h4, R.h5, R.h6, R.h7, R.h9, R.h10, R.h11, R.h12, R.h13, R.h14, R.h15, R.h17, R.h18⟩⟩
        · have hfl : b17 = false := (ready_free hi).2
          have k0 : b0 = true := ready_dep hi rfl 0 rfl
          have hS : b19 = false := by
            cases h : b19 with
            | false => rfl
            | true => exact absurd (show b17 = true from (closed_dep hcl (i := 18) rfl 17 rfl (closed_dep hcl (i := 19) rfl 18 rfl h))) (by rw [hfl]; exact Bool.false_ne_true)
          clear hi hcl
          obtain rfl : b19 = false := hS
          obtain rfl := HRR.out.h0 k0
          refine wpOp_step rfl (fun K' hK => ?_)
          go_simp
          have R := HRR.out
          exact hK _ _ ⟨b0, b1, b2, b3, b4, b5, b6, b7, b8, b9, b10, b11, b12, b13, b14, b15, b16, true, b18, false, _, _, _, _, _, _, _, _, _, _, _, _, _, _, _, _, _, _, _, gq, rfl, rfl, ⟨R.sz, R.below, (fun h => by cases h), R.r1, R.r8, R.r16, R.h0, R.h2, R.h3, R.h4, R.h5, R.h6, R.h7, R.h9, R.h10, R.h11, R.h12, R.h13, R.h14, R.h15, (fun _ => rfl), R.h18⟩⟩
        · have hfl : b18 = false := (ready_free hi).2
          have k17 : b17 = true := ready_dep hi rfl 17 rfl
          have hS : b19 = false := by
            cases h : b19 with
            | false => rfl
            | true => exact absurd (show b18 = true from (closed_dep hcl (i := 19) rfl 18 rfl h)) (by rw [hfl]; exact Bool.false_ne_true)
          clear hi hcl
          obtain rfl : b19 = false := hS
          obtain rfl := HRR.out.h17 k17
          refine wpOp_step rfl (fun K' hK => ?_)
          go_simp
          have R := HRR.out
          exact hK _ _ ⟨b0, b1, b2, b3, b4, b5, b6, b7, b8, b9, b10, b11, b12, b13, b14, b15, b16, b17, true, false, _, _, _, _, _, _, _, _, _, _, _, _, _, _, _, _, _, _, _, gq, rfl, rfl, ⟨R.sz, R.below, (fun h => by cases h), R.r1, R.r8, R.r16, R.h0, R.h2, R.h3, R.h4, R.h5, R.h6, R.h7, R.h9, R.h10, R.h11, R.h12, R.h13, R.h14, R.h15, R.h17, (fun _ => rfl)⟩⟩
        · have hfl : b19 = false := (ready_free hi).2
          have k16 : b16 = true := ready_dep hi rfl 16 rfl
          have k18 : b18 = true := ready_dep hi rfl 18 rfl
          have k8 : b8 = true := closed_dep hcl (i := 16) rfl 8 rfl k16
          clear hi hcl
          obtain rfl := HRR.out.h18 k18
          obtain ⟨A22, c22, hA22⟩ := Kd.R_slice (HRR.out.r16 k16 hfl).R
          obtain ⟨n22, hn22⟩ : ∃ z, (l.take i ++ l.drop (i + 1)).length = z := ⟨_, rfl⟩
          rw [hn22] at hA22
          clear hn22
          subst hA22
          obtain ⟨_, hcg, hfg⟩ := (HC3.out.below (HRR.out.below hfl)).cells
          refine wpOp_step rfl (fun K' hK => ?_)
          go_simp
          have R := HRR.out
          exact hK _ _ ⟨b0, b1, b2, b3, b4, b5, b6, b7, b8, b9, b10, b11, b12, b13, b14, b15, b16, b17, b18, true, _, _, _, _, _, _, _, _, _, _, _, _, _, _, _, _, _, _, _, gq, rfl, rfl, ⟨(by have h := R.sz; simpa [World.setCell] using h), (fun h => by cases h), (fun _ => ⟨w', R.below hfl, R.r16 k16 hfl, rfl⟩), (fun _ h' => absurd k8 (by rw [h']; exact Bool.false_ne_true)), (fun _ h' => absurd k16 (by rw [h']; exact Bool.false_ne_true)), (fun _ h' => by cases h'), R.h0, R.h2, R.h3, R.h4, R.h5, R.h6, R.h7, R.h9, R.h10, R.h11, R.h12, R.h13, R.h14, R.h15, R.h17, R.h18⟩⟩
      case done =>
        rintro lb a w' ⟨b0, b1, b2, b3, b4, b5, b6, b7, b8, b9, b10, b11, b12, b13, b14, b15, b16, b17, b18, b19, a17, a18, a19, a20, a21, a22, a23, a24, a25, a26, a27, a28, a29, a30, a31, a32, a33, a34, a35, gq, rfl, rfl, hR⟩ hi
        have hd := all_done rfl (by kernel_rfl) hi
        clear hi
        obtain rfl : b0 = true := hd 0 (by decide)
        obtain rfl : b1 = true := hd 1 (by decide)
        obtain rfl : b2 = true := hd 2 (by decide)
        obtain rfl : b3 = true := hd 3 (by decide)
        obtain rfl : b4 = true := hd 4 (by decide)
        obtain rfl : b5 = true := hd 5 (by decide)
        obtain rfl : b6 = true := hd 6 (by decide)
        obtain rfl : b7 = true := hd 7 (by decide)
        obtain rfl : b8 = true := hd 8 (by decide)
        obtain rfl : b9 = true := hd 9 (by decide)
        obtain rfl : b10 = true := hd 10 (by decide)
        obtain rfl : b11 = true := hd 11 (by decide)
        obtain rfl : b12 = true := hd 12 (by decide)
        obtain rfl : b13 = true := hd 13 (by decide)
        obtain rfl : b14 = true := hd 14 (by decide)
        obtain rfl : b15 = true := hd 15 (by decide)
        obtain rfl : b16 = true := hd 16 (by decide)
        obtain rfl : b17 = true := hd 17 (by decide)
        obtain rfl : b18 = true := hd 18 (by decide)
        obtain rfl : b19 = true := hd 19 (by decide)
        obtain ⟨w0, hbel, hrow, rfl⟩ := hR.fin rfl
        have HRW := Aside0.mk hrow
        have HBW := Aside0.mk hbel
        clear hR hd hrow hbel
        dsimp only
        go_wp2
        go_meet
        case rel =>
          have hC := HC3.out.below HBW.out
          have hokg := HC3.out.okg
          refine ⟨a33, l.take i ++ l.drop (i + 1), ⟨(Kept.of_below _ HBW.out).trans (Kept.set hokg)⟩, ⟨blk_put hC.blk 1 _ rfl, ?_, hokg, HC3.out.geg⟩, ⟨HG1.out, HLN3.out⟩⟩
          have hs3 := HS2.out
          have hbs := HBS0.out
          have hgl := HC3.out.lt.1
          refine ((?_ : RowP w0 base _ a33 _).move (fun q hq ho => Below.heap_setCell _ _ _ q ho.2))
          refine ⟨own_weaken HRW.out.own (by omega), fun q hq => ?_⟩
          have h1 := HRW.out.ok q hq
          exact ⟨⟨HFR0.out q (by omega), by omega⟩, by omega⟩
    | none =>
      have hri : rr = -1 := by
        rcases HAR.out with ⟨i', e, h1, h2, h3⟩ | ⟨e, _⟩
        · exact absurd h2 (look_no HLK.out i' h1)
        · exact e
      subst hri
      have dge : decide ((0 : Int) ≤ -1) = false := by decide
      obtain ⟨xc0, xc1, _⟩ := HC2.out.cells
      have kc0 := cell_regrown xc0
      have kc1 := cell_regrown xc1
      clear xc0 xc1 hn0 hnc0
      go_upto_region 5 with (fail)
      refine wp_region_quiet_below (by kernel_rfl) (by kernel_rfl) ?_
      repeat (go_big_quiet_step (fail))
      refine wpQuiet_nil ?_
      intro _ hw'
      obtain ⟨⟨d8, o8⟩, hw''⟩ := hw'
      subst hw''
      clear kc0 kc1
      have HN3 : Aside0 (Below w2.heap.size w2 (grow (redrawn w2 d8) o8)) := ⟨below_regrown w2 d8 o8⟩
      have HC3 := Aside0.mk (HC2.out.below HN3.out)
      dsimp only at *
      generalize (grow (redrawn w2 d8) o8) = W3 at HN3 HC3 ⊢
      by_cases c3 : (l.length : Int) = room
      · have cb3 : ((l.length : Int) == room) = true := by simpa using c3
        have hpos : 0 < l.length := by have := HC0.out; omega
        obtain ⟨gr, cr, hv, _, hgr, _⟩ := Kd.R_form HC3.out.row.R hpos
        injection hv with hA0 _ hcr
        subst hA0
        subst hcr
        have hP1 : l1 = l.drop 1 ++ [(k, x)] := by
          have h1 := HL1.out
          unfold putP at h1
          rw [if_neg HC0.out, HLK.out] at h1
          simp only [Option.isSome_none, Bool.false_eq_true, if_false] at h1
          rw [if_pos c3] at h1
          rw [List.drop_one]
          exact h1.symm
        have HPP := Aside0.mk hP1
        have hba : Below W3.heap.size W3 (W3.alloc (.cells #[] 70 (0, 0))) := below_alloc (Below.refl _ _) _
        obtain ⟨v1, W4, hrun, hr1, hg1⟩ := appendM (c := c0 - (0 + 1)) (l.length - (0 + 1)) List.length_drop (RowP.none_ W3 W3.heap.size (fun q => W3.heap.size ≤ q) (Nat.le_refl _) (Nat.le_refl _)) (read_dropA (HC3.out.row.below hba) HNC.out 0) (fun q hq => Nat.le_trans hba.size hq) hba.size (by have := HL.out; rw [List.length_drop]; show 0 + _ ≤ _; omega)
        have HR1 := Aside0.mk hr1
        have HB4 : Aside0 (Below W3.heap.size W3 W4) := ⟨below_grown hba hg1 (fun q hq => by cases hq; exact Nat.le_refl _) (Nat.le_refl _)⟩
        have HLP : Aside0 ((l.drop 1).length ≤ 1000) := ⟨by have := HL.out; rw [List.length_drop]; omega⟩
        have hA1 : (if c0 = 1 then some (⟨gr, 0, none⟩ : Addr) else some ⟨gr, 4, none⟩) = some (dropA gr 0 c0) := dropA_if gr 0 c0
        have hc1 : 1 ≤ c0 := by have := HNC.out; omega
        have hl1 : 1 ≤ l.length := hpos
        have hl2 : (1 : Int) ≤ (l.length : Int) := by omega
        obtain ⟨_, xc1, _⟩ := HC3.out.cells
        obtain ⟨xc1', xf1⟩ : (W3.alloc (.cells #[] 70 (0, 0))).cell? ⟨g, 1, none⟩ = some (.slice (some ⟨gr, 0, none⟩) l.length c0) ∧ W4.frozen? ⟨g, 1, none⟩ = false := ⟨(HC3.out.below hba).cells.2.1, (HC3.out.below HB4.out).cells.2.2⟩
        have xc4 := (HC3.out.below HB4.out).cells.2.1
        obtain ⟨A5, c5, hv5⟩ := Kd.R_slice hr1.R
        obtain ⟨n5, hn5⟩ : ∃ z, ([] ++ l.drop (0 + 1)).length = z := ⟨_, rfl⟩
        rw [hn5] at hv5
        clear hr1 hg1 hba hP1 c3 hn5
        subst hv5
        go_upto_region 6 with (fail)
        refine wp_region_lit ?_
        iterate 7 (refine wpList_plain rfl (fun K' hK => ?_); go_simp; refine hK _ _ ?_; clear hK)
        refine wpList_append_run rfl (.tmp 47) (.tmp 52) 51 rfl rfl rfl hrun ?_
        clear hrun xc1 xc1'
        iterate 3 (refine wpList_plain rfl (fun K' hK => ?_); go_simp; refine hK _ _ ?_; clear hK)
        refine wpList_nil ?_
        go_wp2
        go_meet
        case rel =>
          have hC := HC3.out.below HB4.out
          have hokg := HC3.out.okg
          refine ⟨_, l.drop 1, ⟨((Kept.of_below _ HN3.out).trans (Kept.of_below _ HB4.out)).trans (Kept.set hokg)⟩, ⟨blk_put hC.blk 1 _ rfl, ?_, hokg, HC3.out.geg⟩, ⟨HPP.out, HLP.out⟩⟩
          have hs3 := HS2.out
          have hs4 := HN3.out.size
          have hbs := HBS0.out
          have hgl := HC3.out.lt.1
          refine ((?_ : RowP W4 base _ _ _).move (fun q hq ho => Below.heap_setCell _ _ _ q ho.2))
          refine ⟨own_weaken HR1.out.own (by omega), fun q hq => ?_⟩
          have h1 := HR1.out.ok q hq
          exact ⟨⟨HFR0.out q (by omega), by omega⟩, by omega⟩
      · have cb3 : ((l.length : Int) == room) = false := by simpa using c3
        have hP1 : l1 = l ++ [(k, x)] := by
          have h1 := HL1.out
          unfold putP at h1
          rw [if_neg HC0.out, HLK.out] at h1
          simp only [Option.isSome_none, Bool.false_eq_true, if_false] at h1
          rw [if_neg c3] at h1
          exact h1.symm
        have HPP := Aside0.mk hP1
        clear c3 hP1
        go_wp2
        go_meet
        case rel => exact ⟨_, l, ⟨Kept.of_below _ HN3.out⟩, HC3, ⟨HPP.out, HL.out⟩⟩
  case rest =>
    obtain ⟨v9, P9, HKT, HC9, HR9⟩ := hcut
    have HBK : Aside0 (BoxR wc w.heap.size k) := ⟨HK2.out.kept HKT.out (fun c => c.2 rfl)⟩
    have HLT : Aside0 (g < wc.heap.size) := ⟨HC9.out.lt.1⟩
    have HLG : Aside0 (∀ q, v9.ownBlock = some q → q < wc.heap.size) := ⟨HC9.out.lt.2⟩
    have HNE : Aside0 (some g ≠ v9.ownBlock ∧ some w.heap.size ≠ v9.ownBlock) := ⟨fun e => (HC9.out.row.ok g e.symm).2 rfl, fun e => (HC9.out.row.ok w.heap.size e.symm).1.2 rfl⟩
    have HKG : Aside0 (¬ w.heap.size = g) := ⟨fun e => HC9.out.okg.2 e.symm⟩
    have HOG : Aside0 (∀ q, v9.ownBlock = some q → (ok q ∧ q ≠ w.heap.size)) := ⟨fun q hq => (HC9.out.row.ok q hq).1⟩
    have HOKG : Aside0 (ok g ∧ g ≠ w.heap.size) := ⟨HC9.out.okg⟩
    have HFR8 : Aside0 (∀ q, wc.heap.size ≤ q → (ok q ∧ q ≠ w.heap.size) ∧ q ≠ g) := ⟨fun q hq => by
      have h1 := HKT.out.size
      have h2 := HC9.out.lt.1
      have h3 := HS2.out
      exact ⟨⟨HFR0.out q (by omega), by omega⟩, by omega⟩⟩
    have HBS8 : Aside0 (base ≤ wc.heap.size) := ⟨by have := HKT.out.size; have := HBS0.out; have := HS2.out; omega⟩
    have HLN : Aside0 (P9.length ≤ 10000) := ⟨by have := HR9.out.2; omega⟩
    go_upto_region 7 with (fail)
    refine wp_region_inv2 (IV (fun a56 a57 a58 a59 a60 a61 a62 a63 a64 a65 a66 a67 => { tmps := #[.pointer (some ⟨g, 0, none⟩), kv k, .int .i64 x, undef, .pointer (some ⟨w.heap.size, 0, none⟩), undef, .int .i64 rr, u7, u8, u9, u10, u11, u12, u13, u14, u15, u16, u17, u18, u19, u20, u21, u22, u23, u24, u25, u26, u27, u28, u29, u30, u31, u32, u33, u34, u35, u36, u37, u38, u39, u40, u41, u42, u43, u44, u45, u46, u47, u48, u49, u50, u51, u52, u53, u54, u55, a56, a57, a58, a59, a60, a61, a62, a63, a64, a65, a66, a67], defers := [] }) (fun q => ok q ∧ q ≠ w.heap.size) base g w.heap.size room v9 P9 k x wc) (by kernel_rfl) ?start ?step ?done
    case start =>
      exact ⟨false, false, false, false, false, false, false, false, false, false, false, false, false, u56, u57, u58, u59, u60, u61, u62, u63, u64, u65, u66, u67, 0, rfl, rfl, ⟨⟨rfl, rfl, rfl, Nat.le_refl _, fun _ _ _ => rfl⟩, HC9.out.blk, HBK.out, (fun _ => HC9.out.row.below (below_drew1 (Below.refl _ _))), (fun h => by cases h), (fun h => by cases h), (fun h => by cases h), (fun h => by cases h), (fun h => by cases h), (fun h => by cases h), (fun h => by cases h), (fun h => by cases h), (fun h => by cases h), (fun h => by cases h), (fun h => by cases h), (fun h => by cases h)⟩⟩
    case step =>
      rintro lb a w' q ⟨b0, b1, b2, b3, b4, b5, b6, b7, b8, b9, b10, b11, b12, a56, a57, a58, a59, a60, a61, a62, a63, a64, a65, a66, a67, gl, rfl, rfl, hR⟩ hcl hi
      have HRR := Aside0.mk hR
      clear hR
      have hq : q < 13 := (ready_free hi).1
      have hcase : q = 0 ∨ q = 1 ∨ q = 2 ∨ q = 3 ∨ q = 4 ∨ q = 5 ∨ q = 6 ∨ q = 7 ∨ q = 8 ∨ q = 9 ∨ q = 10 ∨ q = 11 ∨ q = 12 := by omega
      clear hq
      dsimp only
      rcases hcase with rfl | rfl | rfl | rfl | rfl | rfl | rfl | rfl | rfl | rfl | rfl | rfl | rfl
      · have hfl : b0 = false := (ready_free hi).2
        have hS : b12 = false := by
          cases h : b12 with
          | false => rfl
          | true => exact absurd (show b0 = true from (closed_dep hcl (i := 10) rfl 0 rfl (closed_dep hcl (i := 11) rfl 10 rfl (closed_dep hcl (i := 12) rfl 11 rfl h)))) (by rw [hfl]; exact Bool.false_ne_true)
        clear hi hcl
        obtain rfl : b12 = false := hS
        refine wpOp_step rfl (fun K' hK => ?_)
        go_simp
        have R := HRR.out
        exact hK _ _ ⟨true, b1, b2, b3, b4, b5, b6, b7, b8, b9, b10, b11, false, _, _, _, _, _, _, _, _, _, _, _, _, gl, rfl, rfl, ⟨R.kept, R.hg, R.hkey, R.row0, R.row1, R.h8, (fun _ => rfl), R.h1, R.h2, R.h3, R.h4, R.h5, R.h6, R.h7, R.h10, R.h11⟩⟩
      · have hfl : b1 = false := (ready_free hi).2
        have hS : b12 = false := by
          cases h : b12 with
          | false => rfl
          | true => exact absurd (show b1 = true from (closed_dep hcl (i := 2) rfl 1 rfl (closed_dep hcl (i := 3) rfl 2 rfl (closed_dep hcl (i := 4) rfl 3 rfl (closed_dep hcl (i := 9) rfl 4 rfl (closed_dep hcl (i := 12) rfl 9 rfl h)))))) (by rw [hfl]; exact Bool.false_ne_true)
        clear hi hcl
        obtain rfl : b12 = false := hS
        refine wpOp_step rfl (fun K' hK => ?_)
        go_simp
        have R := HRR.out
        exact hK _ _ ⟨b0, true, b2, b3, b4, b5, b6, b7, b8, b9, b10, b11, false, _, _, _, _, _, _, _, _, _, _, _, _, gl, rfl, rfl, ⟨R.kept, R.hg, R.hkey, R.row0, R.row1, R.h8, R.h0, (fun _ => rfl), R.h2, R.h3, R.h4, R.h5, R.h6, R.h7, R.h10, R.h11⟩⟩
      · have hfl : b2 = false := (ready_free hi).2
        have k1 : b1 = true := ready_dep hi rfl 1 rfl
        have hS : b12 = false := by
          cases h : b12 with
          | false => rfl
          | true => exact absurd (show b2 = true from (closed_dep hcl (i := 3) rfl 2 rfl (closed_dep hcl (i := 4) rfl 3 rfl (closed_dep hcl (i := 9) rfl 4 rfl (closed_dep hcl (i := 12) rfl 9 rfl h))))) (by rw [hfl]; exact Bool.false_ne_true)
        clear hi hcl
        obtain rfl : b12 = false := hS
        obtain rfl := HRR.out.h1 k1
        refine wpOp_step rfl (fun K' hK => ?_)
        go_simp
        have R := HRR.out
        exact hK _ _ ⟨b0, b1, true, b3, b4, b5, b6, b7, b8, b9, b10, b11, false, _, _, _, _, _, _, _, _, _, _, _, _, gl, rfl, rfl, ⟨R.kept, R.hg, R.hkey, R.row0, R.row1, R.h8, R.h0, R.h1, (fun _ => rfl), R.h3, R.h4, R.h5, R.h6, R.h7, R.h10, R.h11⟩⟩
      · have hfl : b3 = false := (ready_free hi).2
        have k2 : b2 = true := ready_dep hi rfl 2 rfl
        have hS : b12 = false := by
          cases h : b12 with
          | false => rfl
          | true => exact absurd (show b3 = true from (closed_dep hcl (i := 4) rfl 3 rfl (closed_dep hcl (i := 9) rfl 4 rfl (closed_dep hcl (i := 12) rfl 9 rfl h)))) (by rw [hfl]; exact Bool.false_ne_true)
        clear hi hcl
        obtain rfl : b12 = false := hS
        obtain rfl := HRR.out.h2 k2
        refine wpOp_step rfl (fun K' hK => ?_)
        go_simp
        have R := HRR.out
        exact hK _ _ ⟨b0, b1, b2, true, b4, b5, b6, b7, b8, b9, b10, b11, false, _, _, _, _, _, _, _, _, _, _, _, _, gl, rfl, rfl, ⟨R.kept, R.hg, R.hkey, R.row0, R.row1, R.h8, R.h0, R.h1, R.h2, (fun _ => rfl), R.h4, R.h5, R.h6, R.h7, R.h10, R.h11⟩⟩
      · have hfl : b4 = false := (ready_free hi).2
        have k3 : b3 = true := ready_dep hi rfl 3 rfl
        have hS : b12 = false := by
          cases h : b12 with
          | false => rfl
          | true => exact absurd (show b4 = true from (closed_dep hcl (i := 9) rfl 4 rfl (closed_dep hcl (i := 12) rfl 9 rfl h))) (by rw [hfl]; exact Bool.false_ne_true)
        clear hi hcl
        obtain rfl : b12 = false := hS
        obtain rfl := HRR.out.h3 k3
        have hcg : w'.cell? ⟨g, 1, none⟩ = some v9 := blk_cell HRR.out.hg 1
        refine wpOp_step rfl (fun K' hK => ?_)
        go_simp
        have R := HRR.out
        exact hK _ _ ⟨b0, b1, b2, b3, true, b5, b6, b7, b8, b9, b10, b11, false, _, _, _, _, _, _, _, _, _, _, _, _, gl, rfl, rfl, ⟨R.kept, R.hg, R.hkey, R.row0, R.row1, R.h8, R.h0, R.h1, R.h2, R.h3, (fun _ => rfl), R.h5, R.h6, R.h7, R.h10, R.h11⟩⟩
      · have hfl : b5 = false := (ready_free hi).2
        have hS : b12 = false := by
          cases h : b12 with
          | false => rfl
          | true => exact absurd (show b5 = true from (closed_dep hcl (i := 7) rfl 5 rfl (closed_dep hcl (i := 8) rfl 7 rfl (closed_dep hcl (i := 9) rfl 8 rfl (closed_dep hcl (i := 12) rfl 9 rfl h))))) (by rw [hfl]; exact Bool.false_ne_true)
        clear hi hcl
        obtain rfl : b12 = false := hS
        obtain ⟨ck0, ck1, ck2⟩ := HRR.out.hkey.cells
        refine wpOp_step rfl (fun K' hK => ?_)
        go_simp
        have R := HRR.out
        exact hK _ _ ⟨b0, b1, b2, b3, b4, true, b6, b7, b8, b9, b10, b11, false, _, _, _, _, _, _, _, _, _, _, _, _, gl, rfl, rfl, ⟨R.kept, R.hg, R.hkey, R.row0, R.row1, R.h8, R.h0, R.h1, R.h2, R.h3, R.h4, (fun _ => rfl), R.h6, R.h7, R.h10, R.h11⟩⟩
      · have hfl : b6 = false := (ready_free hi).2
        have hS : b12 = false := by
          cases h : b12 with
          | false => rfl
          | true => exact absurd (show b6 = true from (closed_dep hcl (i := 7) rfl 6 rfl (closed_dep hcl (i := 8) rfl 7 rfl (closed_dep hcl (i := 9) rfl 8 rfl (closed_dep hcl (i := 12) rfl 9 rfl h))))) (by rw [hfl]; exact Bool.false_ne_true)
        clear hi hcl
        obtain rfl : b12 = false := hS
        refine wpOp_step rfl (fun K' hK => ?_)
        go_simp
        have R := HRR.out
        exact hK _ _ ⟨b0, b1, b2, b3, b4, b5, true, b7, b8, b9, b10, b11, false, _, _, _, _, _, _, _, _, _, _, _, _, gl, rfl, rfl, ⟨R.kept, R.hg, R.hkey, R.row0, R.row1, R.h8, R.h0, R.h1, R.h2, R.h3, R.h4, R.h5, (fun _ => rfl), R.h7, R.h10, R.h11⟩⟩
      · have hfl : b7 = false := (ready_free hi).2
        have k5 : b5 = true := ready_dep hi rfl 5 rfl
        have k6 : b6 = true := ready_dep hi rfl 6 rfl
        have hS : b12 = false := by
          cases h : b12 with
          | false => rfl
          | true => exact absurd (show b7 = true from (closed_dep hcl (i := 8) rfl 7 rfl (closed_dep hcl (i := 9) rfl 8 rfl (closed_dep hcl (i := 12) rfl 9 rfl h)))) (by rw [hfl]; exact Bool.false_ne_true)
        clear hi hcl
        obtain rfl : b12 = false := hS
        obtain rfl := HRR.out.h5 k5
        obtain rfl := HRR.out.h6 k6
        refine wpOp_step rfl (fun K' hK => ?_)
        go_simp
        have R := HRR.out
        exact hK _ _ ⟨b0, b1, b2, b3, b4, b5, b6, true, b8, b9, b10, b11, false, _, _, _, _, _, _, _, _, _, _, _, _, gl, rfl, rfl, ⟨R.kept, R.hg, R.hkey, R.row0, R.row1, R.h8, R.h0, R.h1, R.h2, R.h3, R.h4, R.h5, R.h6, (fun _ => rfl), R.h10, R.h11⟩⟩
      · have hfl : b8 = false := (ready_free hi).2
        have k7 : b7 = true := ready_dep hi rfl 7 rfl
        have hS : b12 = false := by
          cases h : b12 with
          | false => rfl
          | true => exact absurd (show b8 = true from (closed_dep hcl (i := 9) rfl 8 rfl (closed_dep hcl (i := 12) rfl 9 rfl h))) (by rw [hfl]; exact Bool.false_ne_true)
        clear hi hcl
        obtain rfl : b12 = false := hS
        obtain rfl := HRR.out.h7 k7
        refine wpOp_step rfl (fun K' hK => ?_)
        go_simp
        have R := HRR.out
        exact hK _ _ ⟨b0, b1, b2, b3, b4, b5, b6, b7, true, b9, b10, b11, false, _, _, _, _, _, _, _, _, _, _, _, _, w'.heap.size, rfl, rfl, ⟨R.kept.trans (Kept.of_below _ (below_alloc (Below.refl _ _) _)), blk_alloc R.hg _, blk_alloc R.hkey _, (fun h => (R.row0 h).below (below_alloc (Below.refl _ _) _)), (fun h => (R.row1 h).below (below_alloc (Below.refl _ _) _)), (fun _ => ⟨rfl, R.kept.size, blk_new _ _⟩), R.h0, R.h1, R.h2, R.h3, R.h4, R.h5, R.h6, R.h7, R.h10, R.h11⟩⟩
      · have hfl : b9 = false := (ready_free hi).2
        have k4 : b4 = true := ready_dep hi rfl 4 rfl
        have k8 : b8 = true := ready_dep hi rfl 8 rfl
        have hS : b12 = false := by
          cases h : b12 with
          | false => rfl
          | true => exact absurd (show b9 = true from (closed_dep hcl (i := 12) rfl 9 rfl h)) (by rw [hfl]; exact Bool.false_ne_true)
        clear hi hcl
        obtain rfl : b12 = false := hS
        obtain rfl := HRR.out.h4 k4
        obtain ⟨e10, l10, q10⟩ := HRR.out.h8 k8
        subst e10
        have hsz := HRR.out.kept.size
        obtain ⟨v1, W2, hrun, hr1, hg1⟩ := append1P (HRR.out.row0 hfl) q10 (fun k hk => HFR8.out k (Nat.le_trans hsz hk)) (Nat.le_trans HBS8.out hsz) HLN.out
        have HR1 := Aside0.mk hr1
        have HG1 := Aside0.mk hg1
        have HQ := Aside0.mk q10
        have HL10 := Aside0.mk l10
        clear hr1 hg1 hsz q10 l10
        refine wpOp_append rfl rfl (.tmp 60) (.tmp 64) 51 rfl rfl rfl hrun ?_
        have R := HRR.out
        exact ⟨b0, b1, b2, b3, b4, b5, b6, b7, b8, true, b10, b11, false, _, _, _, _, _, _, _, _, _, _, _, _, gl, rfl, rfl, ⟨R.kept.trans (Kept.of_row HG1.out HOG.out), (blk_grown R.hg HG1.out HNE.out.1), blk_grown R.hkey HG1.out HNE.out.2, (fun h => by cases h), (fun _ => HR1.out), (fun _ => ⟨rfl, HL10.out, blk_grown HQ.out HG1.out (fun e => absurd (HLG.out _ e.symm) (by have := HL10.out; omega))⟩), R.h0, R.h1, R.h2, R.h3, R.h4, R.h5, R.h6, R.h7, R.h10, R.h11⟩⟩
      · have hfl : b10 = false := (ready_free hi).2
        have k0 : b0 = true := ready_dep hi rfl 0 rfl
        have hS : b12 = false := by
          cases h : b12 with
          | false => rfl
          | true => exact absurd (show b10 = true from (closed_dep hcl (i := 11) rfl 10 rfl (closed_dep hcl (i := 12) rfl 11 rfl h))) (by rw [hfl]; exact Bool.false_ne_true)
        clear hi hcl
        obtain rfl : b12 = false := hS
        obtain rfl := HRR.out.h0 k0
        refine wpOp_step rfl (fun K' hK => ?_)
        go_simp
        have R := HRR.out
        exact hK _ _ ⟨b0, b1, b2, b3, b4, b5, b6, b7, b8, b9, true, b11, false, _, _, _, _, _, _, _, _, _, _, _, _, gl, rfl, rfl, ⟨R.kept, R.hg, R.hkey, R.row0, R.row1, R.h8, R.h0, R.h1, R.h2, R.h3, R.h4, R.h5, R.h6, R.h7, (fun _ => rfl), R.h11⟩⟩
      · have hfl : b11 = false := (ready_free hi).2
        have k10 : b10 = true := ready_dep hi rfl 10 rfl
        have hS : b12 = false := by
          cases h : b12 with
          | false => rfl
          | true => exact absurd (show b11 = true from (closed_dep hcl (i := 12) rfl 11 rfl h)) (by rw [hfl]; exact Bool.false_ne_true)
        clear hi hcl
        obtain rfl : b12 = false := hS
        obtain rfl := HRR.out.h10 k10
        refine wpOp_step rfl (fun K' hK => ?_)
        go_simp
        have R := HRR.out
        exact hK _ _ ⟨b0, b1, b2, b3, b4, b5, b6, b7, b8, b9, b10, true, false, _, _, _, _, _, _, _, _, _, _, _, _, gl, rfl, rfl, ⟨R.kept, R.hg, R.hkey, R.row0, R.row1, R.h8, R.h0, R.h1, R.h2, R.h3, R.h4, R.h5, R.h6, R.h7, R.h10, (fun _ => rfl)⟩⟩
      · have hfl : b12 = false := (ready_free hi).2
        have k11 : b11 = true := ready_dep hi rfl 11 rfl
        have k9 : b9 = true := ready_dep hi rfl 9 rfl
        clear hi hcl
        obtain rfl := HRR.out.h11 k11
        obtain ⟨A22, c22, hA22⟩ := Kd.R_slice (HRR.out.row1 k9).R
        obtain ⟨n22, hn22⟩ : ∃ z, (P9 ++ [(k, x)]).length = z := ⟨_, rfl⟩
        rw [hn22] at hA22
        clear hn22
        subst hA22
        have hcg := (blk_cell HRR.out.hg 1)
        rw [hfl] at hcg
        have hcg' : w'.cell? ⟨g, 1, none⟩ = some v9 := hcg
        have hfg := blk_frozen HRR.out.hg 1
        clear hcg
        refine wpOp_step rfl (fun K' hK => ?_)
        go_simp
        have R := HRR.out
        exact hK _ _ ⟨b0, b1, b2, b3, b4, b5, b6, b7, b8, b9, b10, b11, true, _, _, _, _, _, _, _, _, _, _, _, _, gl, rfl, rfl, ⟨R.kept.trans (Kept.set HOKG.out), (blk_put R.hg 1 _ rfl), R.hkey.kept (Kept.set (ok := fun q => q = g) rfl) HKG.out, (fun h => absurd k9 (by rw [h]; exact Bool.false_ne_true)), (fun h => (R.row1 h).move (fun q _ ho => Below.heap_setCell _ _ _ q ho.2)), (fun h => let ⟨e, l, q⟩ := R.h8 h; ⟨e, l, q.kept (Kept.set (ok := fun q => q = g) rfl) (by have := HLT.out; omega)⟩), R.h0, R.h1, R.h2, R.h3, R.h4, R.h5, R.h6, R.h7, R.h10, R.h11⟩⟩
    case done =>
      rintro lb a w' ⟨b0, b1, b2, b3, b4, b5, b6, b7, b8, b9, b10, b11, b12, a56, a57, a58, a59, a60, a61, a62, a63, a64, a65, a66, a67, gl, rfl, rfl, hR⟩ hi
      have hd := all_done rfl (by kernel_rfl) hi
      clear hi
      obtain rfl : b0 = true := hd 0 (by decide)
      obtain rfl : b1 = true := hd 1 (by decide)
      obtain rfl : b2 = true := hd 2 (by decide)
      obtain rfl : b3 = true := hd 3 (by decide)
      obtain rfl : b4 = true := hd 4 (by decide)
      obtain rfl : b5 = true := hd 5 (by decide)
      obtain rfl : b6 = true := hd 6 (by decide)
      obtain rfl : b7 = true := hd 7 (by decide)
      obtain rfl : b8 = true := hd 8 (by decide)
      obtain rfl : b9 = true := hd 9 (by decide)
      obtain rfl : b10 = true := hd 10 (by decide)
      obtain rfl : b11 = true := hd 11 (by decide)
      obtain rfl : b12 = true := hd 12 (by decide)
      have HRR := Aside0.mk hR
      clear hR hd
      dsimp only
      go_wp2
      go_end0
      have R := HRR.out
      refine ⟨rfl, (Kept.of_below ok HB2.out).trans ((HKT.out.trans R.kept).mono fun q hq => hq.1), a65, ?_⟩
      rw [HR9.out.1]
      exact ⟨R.hg, (R.row1 rfl).mono (fun q _ ho => ⟨ho.1.1, ho.2⟩), HC9.out.okg.1, HC9.out.geg⟩
end Go.Proofs.Ytlpbfhbfaphicaa.C19
