/- Layer 19 (cache): used, walked: a key that is there is the last one. -/
import Derived.Test.YtlpbfhbfaphicaaCac19a
namespace Go.Proofs.Ytlpbfhbfaphicaa.C19
open Go Go.RowKit Go.Maps Go.Lib Go.Sort Go.Proofs.YtlpbfhbfaphicaaW.PrintWords Go.Proofs.YtlpbfhbfaphicaaW.PrintLast Go.Proofs.YtlpbfhbfaphicaaW.PrintMore Go.Proofs.Ytlpbfhbfaphicaa.XA

set_option linter.unusedVariables false
/-- An operation that appends, in a region that draws its order. -/
theorem wpOp_append {P : Program} {ops : Array Oper} {o : Oper} {i : Nat} {a : Act} {w w' : World} {K : Act → World → Prop} {Q : Exit → Act → World → Prop} (hi : ops[i]? = some o) (hg : o.guard = none) (s x : Operand) (t : TypeId)
    (ho : o.op = .call { callee := .builtin .append, args := #[s, x], argTypes := #[t, t] }) {vs vx v : Value} (hs : a.eval s = vs) (hx : a.eval x = vx) (hr : ∀ ty, (Builtin.append_ #[t, t] ty #[vs, vx]).run P w = .ok v w') (hK : K (a.put o.dst v) w') : wpOp P ops Q i K a w := by
  have hw : Region.wanted o (yielded ops a.tmps) = true := by simp [Region.wanted, hg]
  unfold wpOp
  rw [hi]
  show if Region.wanted o (yielded ops a.tmps) = true then _ else _
  rw [if_pos hw]
  refine .inl ?_
  have h := step_run (P := P) (ops := ops) (Q := Q) (K := K) (E := True) hg s x t ho hs hx hr hK
  rwa [if_pos hw] at h
structure RU (ok : Nat → Prop) (base g bm kb gr c i : Nat) (room h m : Int) (v : Value) (L : List K3) (x : K3) (D : DataW Value) (n : Nat) (w1 w' : World) (b0 b1 b2 b3 b4 b5 b6 b7 b8 b9 b10 b11 b12 b13 b14 : Bool) (u11 u12 u13 u14 u15 u16 u17 u18 u19 u20 u21 u22 u23 u24 : Value) (gl : Nat) : Prop where
  kept : Kept ok w1 w'
  hg : w'.heap[g]? = some (.cells #[.int .i64 room, if b14 then u22 else v, .map (some bm), .int .i64 h, .int .i64 m] 65 (0, 0))
  hmap : w'.ownsMap Try.prog 35 (plainElem Try.prog 3) bm n D
  hkey : BoxK w' kb x
  row0 : b8 = false → kk.R 35 w' base (fun k => ok k ∧ k ≠ g ∧ k ≠ bm) v L
  row1 : b8 = true → b11 = false → kk.R 35 w' base (fun k => ok k ∧ k ≠ g ∧ k ≠ bm) (.slice (some ⟨gr, 0, none⟩) (L.length - 1) c) (L.eraseIdx i)
  row2 : b11 = true → kk.R 35 w' base (fun k => ok k ∧ k ≠ g ∧ k ≠ bm) u22 (L.eraseIdx i ++ [x])
  o14 : b14 = true → b4 = true ∧ b11 = true ∧ b13 = true
  o11 : b11 = true → b8 = true
  h0 : b0 = true → u11 = .pointer (some ⟨g, 0, none⟩)
  h1 : b1 = true → u12 = .pointer (some ⟨g, 0, none⟩)
  h2 : b2 = true → u13 = .pointer (some ⟨g, 0, none⟩)
  h3 : b3 = true → u14 = .pointer (some ⟨g, 1, none⟩)
  h4 : b4 = true → u15 = v
  h5 : b5 = true → u16 = .int .i64 (i : Int)
  h6 : b6 = true → u17 = .int .i64 (i : Int)
  h7 : b7 = true → u18 = .int .i64 ((i : Int) + 1)
  h8 : b8 = true → u19 = .slice (some ⟨gr, 0, none⟩) (L.length - 1) c
  h9 : b9 = true → u20 = kv x
  h10 : b10 = true → u21 = .slice (some ⟨gl, 0, none⟩) 1 1 ∧ w1.heap.size ≤ gl ∧ BoxK w' gl x
  h12 : b12 = true → u23 = .pointer (some ⟨g, 0, none⟩)
  h13 : b13 = true → u24 = .pointer (some ⟨g, 1, none⟩)
def IU (ok : Nat → Prop) (base g bm kb gr c i : Nat) (room h m : Int) (v : Value) (L : List K3) (x : K3) (D : DataW Value) (n : Nat) (w1 : World) (l : Array Bool) (a : Act) (w' : World) : Prop :=
  ∃ b0 b1 b2 b3 b4 b5 b6 b7 b8 b9 b10 b11 b12 b13 b14 : Bool, ∃ u11 u12 u13 u14 u15 u16 u17 u18 u19 u20 u21 u22 u23 u24 : Value, ∃ gl : Nat, l = [b0, b1, b2, b3, b4, b5, b6, b7, b8, b9, b10, b11, b12, b13, b14].toArray ∧ a = { tmps := #[.pointer (some ⟨g, 0, none⟩), kv x, undef, .pointer (some ⟨kb, 0, none⟩), .int .i64 (i : Int), .pointer (some ⟨g, 0, none⟩), .pointer (some ⟨g, 0, none⟩), .pointer (some ⟨g, 1, none⟩), v, kv x, .int .i64 (i : Int), u11, u12, u13, u14, u15, u16, u17, u18, u19, u20, u21, u22, u23, u24], defers := [] } ∧ RU ok base g bm kb gr c i room h m v L x D n w1 w' b0 b1 b2 b3 b4 b5 b6 b7 b8 b9 b10 b11 b12 b13 b14 u11 u12 u13 u14 u15 u16 u17 u18 u19 u20 u21 u22 u23 u24 gl
set_option maxHeartbeats 4000000 in
set_option maxRecDepth 100000 in
theorem used_calls {w : World} {base g bm n i : Nat} {ok : Nat → Prop} {room h m : Int} {v : Value} {L : List K3} {D : DataW Value} {x : K3} (H : Cac w base ok g bm room h m v L D n) (hfresh : ∀ k, w.heap.size ≤ k → ok k) (hbase : base ≤ w.heap.size)
    (hi : L[i]? = some x) (hf : ∀ j, j < i → L[j]? ≠ some x) (hl : L.length ≤ 10000) :
    Calls Try.prog 29 #[.pointer (some ⟨g, 0, none⟩), kv x] w fun e w' => e = .returned (.tuple #[]) ∧ Kept ok w w' ∧ ∃ v', Cac w' base ok g bm room h m v' (L.eraseIdx i ++ [x]) D n := by
  have hil : i < L.length := (List.getElem?_eq_some_iff.1 hi).1
  obtain ⟨gr, c, hv, _, hgr, _⟩ := Kd.R_form H.row (by omega)
  have hlt := H.lt
  have hokr := H.row.1 gr (by rw [hv]; rfl)
  obtain ⟨kf, hkf⟩ := index_ev L x i hi hf (by omega)
  subst hv
  have hnc := (Kd.R_reads' H.row).2.1
  have hnb := hokr.1
  have HI := Aside0.mk hil
  have HH := Aside0.mk H
  have HFR0 := Aside0.mk hfresh
  have HBS0 := Aside0.mk hbase
  have HKF := Aside0.mk hkf
  have HLN0 := Aside0.mk hl
  have HLT0 := Aside0.mk hlt
  have HGR := Aside0.mk hgr
  have HOKR := Aside0.mk hokr
  have HNC := Aside0.mk hnc
  clear hi hf hkf hl hfresh hbase hlt hgr hokr hil H hnc hnb
  go_enter Try.func29, Try.ntmps29
  go_upto_region 1 with (fail)
  have hb0 : Below w.heap.size w (w.alloc (.cells (kc x).toArray 35 (0, 0))) := below_alloc (Below.refl _ _) _
  have HC : Aside0 (Cac (w.alloc (.cells (kc x).toArray 35 (0, 0))) base (fun k => ok k ∧ k ≠ w.heap.size) g bm room h m (.slice (some ⟨gr, 0, none⟩) L.length c) L D n) := ⟨(HH.out.mono (fun k hk ho => ⟨ho, Nat.ne_of_lt hk⟩)).below hb0⟩
  have HK : Aside0 (BoxK (w.alloc (.cells (kc x).toArray 35 (0, 0))) w.heap.size x) := ⟨BoxK.new w x⟩
  have HKP : Aside0 (Below w.heap.size w (w.alloc (.cells (kc x).toArray 35 (0, 0)))) := ⟨hb0⟩
  have HSZ : Aside0 (w.heap.size + 1 ≤ (w.alloc (.cells (kc x).toArray 35 (0, 0))).heap.size) := ⟨by rw [World.size_alloc]; exact Nat.le_refl _⟩
  clear hb0
  generalize (w.alloc (Obj.cells #[.int .u64 x.f0, .int .i64 x.f1, .int .i64 x.f2] 35)) = W0 at HC HK HKP HSZ ⊢
  obtain ⟨⟨_, xc1, _, _, _⟩, _⟩ := HC.out.cells
  obtain ⟨xk0, xk1, xk2⟩ := HK.out.cells
  have kc1 := cell_regrown xc1
  have kk0 := cell_regrown xk0
  have kk1 := cell_regrown xk1
  have kk2 := cell_regrown xk2
  clear xc1 xk0 xk1 xk2
  have cI : ∀ d os, Calls Try.prog 34 #[.slice (some ⟨gr, 0, none⟩) L.length c, .agg #[.int .u64 x.f0, .int .i64 x.f1, .int .i64 x.f2]] (grow (redrawn W0 d) os) fun e w'' => e = .returned (.int .i64 (i : Int)) ∧ ∃ p : Regrown, w'' = grow (redrawn W0 p.d) p.os := fun d os => Calls.regrown_of (cache_Key.calls kf _ c L _ _ _ _ _ (Kd.C_below (Kd.R_reads' HC.out.row).2.2 (below_regrown W0 d os)) HNC.out HKF.out)
  refine wp_region_quiet_below (by kernel_rfl) (by kernel_rfl) ?_
  repeat (go_big_quiet_step (first | (with_reducible exact cI _ _)))
  refine wpQuiet_nil ?_
  intro _ hw'
  obtain ⟨⟨d7, o7⟩, hw''⟩ := hw'
  subst hw''
  clear cI kc1 kk0 kk1 kk2
  have HN := Aside0.mk (below_step HKP.out (below_regrown W0 d7 o7))
  have HCn := Aside0.mk (HC.out.below (below_regrown W0 d7 o7))
  have HKn := Aside0.mk (HK.out.below (below_regrown W0 d7 o7))
  have HSn := Aside0.mk (Nat.le_trans HSZ.out (below_regrown W0 d7 o7).size)
  clear HKP HC HK HSZ
  dsimp only at *
  generalize (grow (redrawn W0 d7) o7) = W1 at HN HCn HKn HSn ⊢
  have hw7 : IntKind.i64.wrap ((i : Int) + 1) = (i : Int) + 1 := by
    have h1 := HLN0.out
    have h2 := HI.out
    rw [i64_w]
    unfold wrap64
    omega
  go_upto_region 2 with (fail)
  have HLT : Aside0 (g < W1.heap.size) := ⟨HCn.out.lt.1⟩
  have HLG : Aside0 (gr < W1.heap.size) := ⟨by have := HGR.out; have := HSn.out; omega⟩
  have HNE : Aside0 (g ≠ gr ∧ bm ≠ gr ∧ w.heap.size ≠ gr) := ⟨fun e => HOKR.out.2.1 e.symm, fun e => HOKR.out.2.2 e.symm, by have := HGR.out; omega⟩
  have HNE2 : Aside0 (bm ≠ g) := ⟨HCn.out.ne⟩
  have HKG : Aside0 (¬ w.heap.size = g) := ⟨by have := HLT0.out.1; omega⟩
  have HOG : Aside0 (ok gr ∧ gr ≠ w.heap.size) := ⟨HOKR.out.1, by have := HGR.out; omega⟩
  have HOKG : Aside0 (ok g ∧ g ≠ w.heap.size) := ⟨HCn.out.okg⟩
  have HFR : Aside0 (∀ k, W1.heap.size ≤ k → (ok k ∧ k ≠ w.heap.size) ∧ k ≠ g ∧ k ≠ bm) := ⟨fun k hk => by
    have h1 := HSn.out
    have h2 := HCn.out.lt
    exact ⟨⟨HFR0.out k (by omega), by omega⟩, by omega, by omega⟩⟩
  have HBS : Aside0 (base ≤ W1.heap.size) := ⟨by have := HBS0.out; have := HSn.out; omega⟩
  have HLN : Aside0 ((L.eraseIdx i).length ≤ 100000) := ⟨by have := HLN0.out; have := List.length_eraseIdx_le L i; omega⟩
  refine wp_region_inv (IU (fun k => ok k ∧ k ≠ w.heap.size) base g bm w.heap.size gr c i room h m (.slice (some ⟨gr, 0, none⟩) L.length c) L x D n W1) (by kernel_rfl) ?start ?step ?done
  case start =>
    exact ⟨false, false, false, false, false, false, false, false, false, false, false, false, false, false, false, undef, undef, undef, undef, undef, undef, undef, undef, undef, undef, undef, undef, undef, undef, 0, rfl, rfl, ⟨⟨rfl, rfl, rfl, Nat.le_refl _, fun _ _ _ => rfl⟩, HCn.out.blk, HCn.out.map.drew, HKn.out, (fun _ => HCn.out.row), (fun h => by cases h), (fun h => by cases h), (fun h => by cases h), (fun h => by cases h), (fun h => by cases h), (fun h => by cases h), (fun h => by cases h), (fun h => by cases h), (fun h => by cases h), (fun h => by cases h), (fun h => by cases h), (fun h => by cases h), (fun h => by cases h), (fun h => by cases h), (fun h => by cases h), (fun h => by cases h), (fun h => by cases h)⟩⟩
  case step =>
    rintro l a w' q ⟨b0, b1, b2, b3, b4, b5, b6, b7, b8, b9, b10, b11, b12, b13, b14, u11, u12, u13, u14, u15, u16, u17, u18, u19, u20, u21, u22, u23, u24, gl, rfl, rfl, hR⟩ hi
    have HRR := Aside0.mk hR
    clear hR
    have hq : q < 15 := (ready_free hi).1
    have hcase : q = 0 ∨ q = 1 ∨ q = 2 ∨ q = 3 ∨ q = 4 ∨ q = 5 ∨ q = 6 ∨ q = 7 ∨ q = 8 ∨ q = 9 ∨ q = 10 ∨ q = 11 ∨ q = 12 ∨ q = 13 ∨ q = 14 := by omega
    clear hq
    rcases hcase with rfl | rfl | rfl | rfl | rfl | rfl | rfl | rfl | rfl | rfl | rfl | rfl | rfl | rfl | rfl
    · -- 0
        have hfl : b0 = false := (ready_free hi).2
        clear hi
        refine wpOp_step rfl (fun K' hK => ?_)
        go_simp
        have R := HRR.out
        exact hK _ _ ⟨true, b1, b2, b3, b4, b5, b6, b7, b8, b9, b10, b11, b12, b13, b14, _, _, _, _, _, _, _, _, _, _, _, _, _, _, gl, rfl, rfl, ⟨R.kept, R.hg, R.hmap, R.hkey, R.row0, R.row1, R.row2, R.o14, R.o11, (fun _ => rfl), R.h1, R.h2, R.h3, R.h4, R.h5, R.h6, R.h7, R.h8, R.h9, R.h10, R.h12, R.h13⟩⟩
    · -- 1
        have hfl : b1 = false := (ready_free hi).2
        clear hi
        refine wpOp_step rfl (fun K' hK => ?_)
        go_simp
        have R := HRR.out
        exact hK _ _ ⟨b0, true, b2, b3, b4, b5, b6, b7, b8, b9, b10, b11, b12, b13, b14, _, _, _, _, _, _, _, _, _, _, _, _, _, _, gl, rfl, rfl, ⟨R.kept, R.hg, R.hmap, R.hkey, R.row0, R.row1, R.row2, R.o14, R.o11, R.h0, (fun _ => rfl), R.h2, R.h3, R.h4, R.h5, R.h6, R.h7, R.h8, R.h9, R.h10, R.h12, R.h13⟩⟩
    · -- 2
        have hfl : b2 = false := (ready_free hi).2
        have k1 : b1 = true := ready_dep hi rfl 1 rfl
        clear hi
        obtain rfl := HRR.out.h1 k1
        refine wpOp_step rfl (fun K' hK => ?_)
        go_simp
        have R := HRR.out
        exact hK _ _ ⟨b0, b1, true, b3, b4, b5, b6, b7, b8, b9, b10, b11, b12, b13, b14, _, _, _, _, _, _, _, _, _, _, _, _, _, _, gl, rfl, rfl, ⟨R.kept, R.hg, R.hmap, R.hkey, R.row0, R.row1, R.row2, R.o14, R.o11, R.h0, R.h1, (fun _ => rfl), R.h3, R.h4, R.h5, R.h6, R.h7, R.h8, R.h9, R.h10, R.h12, R.h13⟩⟩
    · -- 3
        have hfl : b3 = false := (ready_free hi).2
        have k2 : b2 = true := ready_dep hi rfl 2 rfl
        clear hi
        obtain rfl := HRR.out.h2 k2
        refine wpOp_step rfl (fun K' hK => ?_)
        go_simp
        have R := HRR.out
        exact hK _ _ ⟨b0, b1, b2, true, b4, b5, b6, b7, b8, b9, b10, b11, b12, b13, b14, _, _, _, _, _, _, _, _, _, _, _, _, _, _, gl, rfl, rfl, ⟨R.kept, R.hg, R.hmap, R.hkey, R.row0, R.row1, R.row2, R.o14, R.o11, R.h0, R.h1, R.h2, (fun _ => rfl), R.h4, R.h5, R.h6, R.h7, R.h8, R.h9, R.h10, R.h12, R.h13⟩⟩
    · -- 4
        have hfl : b4 = false := (ready_free hi).2
        have k3 : b3 = true := ready_dep hi rfl 3 rfl
        clear hi
        obtain rfl := HRR.out.h3 k3
        have h14 : b14 = false := by
          cases h : b14
          · rfl
          · exact absurd (HRR.out.o14 h).1 (by rw [hfl]; exact Bool.false_ne_true)
        have hcg : w'.cell? ⟨g, 1, none⟩ = some (.slice (some ⟨gr, 0, none⟩) L.length c) := by
          have := (blk_cell HRR.out.hg 1)
          rw [h14] at this
          exact this
        clear h14
        refine wpOp_step rfl (fun K' hK => ?_)
        go_simp
        have R := HRR.out
        exact hK _ _ ⟨b0, b1, b2, b3, true, b5, b6, b7, b8, b9, b10, b11, b12, b13, b14, _, _, _, _, _, _, _, _, _, _, _, _, _, _, gl, rfl, rfl, ⟨R.kept, R.hg, R.hmap, R.hkey, R.row0, R.row1, R.row2, (fun h => ⟨rfl, (R.o14 h).2.1, (R.o14 h).2.2⟩), R.o11, R.h0, R.h1, R.h2, R.h3, (fun _ => rfl), R.h5, R.h6, R.h7, R.h8, R.h9, R.h10, R.h12, R.h13⟩⟩
    · -- 5
        have hfl : b5 = false := (ready_free hi).2
        clear hi
        refine wpOp_step rfl (fun K' hK => ?_)
        go_simp
        have R := HRR.out
        exact hK _ _ ⟨b0, b1, b2, b3, b4, true, b6, b7, b8, b9, b10, b11, b12, b13, b14, _, _, _, _, _, _, _, _, _, _, _, _, _, _, gl, rfl, rfl, ⟨R.kept, R.hg, R.hmap, R.hkey, R.row0, R.row1, R.row2, R.o14, R.o11, R.h0, R.h1, R.h2, R.h3, R.h4, (fun _ => rfl), R.h6, R.h7, R.h8, R.h9, R.h10, R.h12, R.h13⟩⟩
    · -- 6
        have hfl : b6 = false := (ready_free hi).2
        clear hi
        refine wpOp_step rfl (fun K' hK => ?_)
        go_simp
        have R := HRR.out
        exact hK _ _ ⟨b0, b1, b2, b3, b4, b5, true, b7, b8, b9, b10, b11, b12, b13, b14, _, _, _, _, _, _, _, _, _, _, _, _, _, _, gl, rfl, rfl, ⟨R.kept, R.hg, R.hmap, R.hkey, R.row0, R.row1, R.row2, R.o14, R.o11, R.h0, R.h1, R.h2, R.h3, R.h4, R.h5, (fun _ => rfl), R.h7, R.h8, R.h9, R.h10, R.h12, R.h13⟩⟩
    · -- 7
        have hfl : b7 = false := (ready_free hi).2
        have k6 : b6 = true := ready_dep hi rfl 6 rfl
        clear hi
        obtain rfl := HRR.out.h6 k6
        refine wpOp_step rfl (fun K' hK => ?_)
        go_simp
        have R := HRR.out
        exact hK _ _ ⟨b0, b1, b2, b3, b4, b5, b6, true, b8, b9, b10, b11, b12, b13, b14, _, _, _, _, _, _, _, _, _, _, _, _, _, _, gl, rfl, rfl, ⟨R.kept, R.hg, R.hmap, R.hkey, R.row0, R.row1, R.row2, R.o14, R.o11, R.h0, R.h1, R.h2, R.h3, R.h4, R.h5, R.h6, (fun _ => rfl), R.h8, R.h9, R.h10, R.h12, R.h13⟩⟩
    · -- 8
        have hfl : b8 = false := (ready_free hi).2
        have k4 : b4 = true := ready_dep hi rfl 4 rfl
        have k5 : b5 = true := ready_dep hi rfl 5 rfl
        have k7 : b7 = true := ready_dep hi rfl 7 rfl
        clear hi
        obtain rfl := HRR.out.h4 k4
        obtain rfl := HRR.out.h5 k5
        obtain rfl := HRR.out.h7 k7
        have hrow := HRR.out.row0 hfl
        have CD := Aside0.mk (delete_calls hrow HI.out)
        clear hrow
        refine wpOp_step rfl (fun K' hK => ?_)
        go_wp2_with (go_at_call 30; (with_reducible refine CD.out.mono ?_); rintro e w8 ⟨rfl, hr8, hg8⟩; have HR8 := Aside0.mk hr8; have HG8 := Aside0.mk hg8; clear hr8 hg8)
        have R := HRR.out
        have h11 : b11 = false := by
          cases h : b11
          · rfl
          · exact absurd (R.o11 h) (by rw [hfl]; exact Bool.false_ne_true)
        have hng : some g ≠ some gr := fun e => HNE.out.1 (Option.some.inj e)
        have hnm : some bm ≠ some gr := fun e => HNE.out.2.1 (Option.some.inj e)
        have hnk : some w.heap.size ≠ some gr := fun e => HNE.out.2.2 (Option.some.inj e)
        exact ⟨b0, b1, b2, b3, b4, b5, b6, b7, true, b9, b10, b11, b12, b13, b14, _, _, _, _, _, _, _, _, _, _, _, _, _, _, gl, rfl, rfl, ⟨R.kept.trans (Kept.of_grown HG8.out HOG.out), blk_grown R.hg HG8.out hng, R.hmap.kept HG8.out hnm, blk_grown R.hkey HG8.out hnk, (fun h => by cases h), (fun _ _ => HR8.out), (fun h => absurd h (by rw [h11]; exact Bool.false_ne_true)), R.o14, (fun _ => rfl), R.h0, R.h1, R.h2, R.h3, R.h4, R.h5, R.h6, R.h7, (fun _ => rfl), R.h9, (fun h => let ⟨e, l, q⟩ := R.h10 h; ⟨e, l, blk_grown q HG8.out (fun e => absurd HLG.out (by have := Option.some.inj e; omega))⟩), R.h12, R.h13⟩⟩
    · -- 9
        have hfl : b9 = false := (ready_free hi).2
        clear hi
        obtain ⟨ck0, ck1, ck2⟩ := HRR.out.hkey.cells
        refine wpOp_step rfl (fun K' hK => ?_)
        go_simp
        have R := HRR.out
        exact hK _ _ ⟨b0, b1, b2, b3, b4, b5, b6, b7, b8, true, b10, b11, b12, b13, b14, _, _, _, _, _, _, _, _, _, _, _, _, _, _, gl, rfl, rfl, ⟨R.kept, R.hg, R.hmap, R.hkey, R.row0, R.row1, R.row2, R.o14, R.o11, R.h0, R.h1, R.h2, R.h3, R.h4, R.h5, R.h6, R.h7, R.h8, (fun _ => rfl), R.h10, R.h12, R.h13⟩⟩
    · -- 10
        have hfl : b10 = false := (ready_free hi).2
        have k9 : b9 = true := ready_dep hi rfl 9 rfl
        clear hi
        obtain rfl := HRR.out.h9 k9
        refine wpOp_step rfl (fun K' hK => ?_)
        go_simp
        have R := HRR.out
        exact hK _ _ ⟨b0, b1, b2, b3, b4, b5, b6, b7, b8, b9, true, b11, b12, b13, b14, _, _, _, _, _, _, _, _, _, _, _, _, _, _, w'.heap.size, rfl, rfl, ⟨R.kept.trans (Kept.of_below _ (below_alloc (Below.refl _ _) _)), blk_alloc R.hg _, R.hmap.alloc _, blk_alloc R.hkey _, (fun h => Kd.R_below (R.row0 h) (below_alloc (Below.refl _ _) _)), (fun h h' => Kd.R_below (R.row1 h h') (below_alloc (Below.refl _ _) _)), (fun h => Kd.R_below (R.row2 h) (below_alloc (Below.refl _ _) _)), R.o14, R.o11, R.h0, R.h1, R.h2, R.h3, R.h4, R.h5, R.h6, R.h7, R.h8, R.h9, (fun _ => ⟨rfl, R.kept.size, BoxK.new w' x⟩), R.h12, R.h13⟩⟩
    · -- 11
        have hfl : b11 = false := (ready_free hi).2
        have k8 : b8 = true := ready_dep hi rfl 8 rfl
        have k10 : b10 = true := ready_dep hi rfl 10 rfl
        clear hi
        obtain rfl := HRR.out.h8 k8
        obtain ⟨e10, l10, q10⟩ := HRR.out.h10 k10
        subst e10
        have hsz := HRR.out.kept.size
        obtain ⟨v1, W1, hrun, hr1, hg1⟩ := append1 (HRR.out.row1 k8 hfl) q10 (fun k hk => HFR.out k (Nat.le_trans hsz hk)) (Nat.le_trans HBS.out hsz) HLN.out
        have HR1 := Aside0.mk hr1
        have HG1 := Aside0.mk (show w'.grownBy W1 (some gr) from hg1)
        have HQ := Aside0.mk q10
        have HL10 := Aside0.mk l10
        clear hr1 hg1 hsz q10 l10
        refine wpOp_append rfl rfl (.tmp 19) (.tmp 21) 63 rfl rfl rfl hrun ?_
        have R := HRR.out
        have h14 : b14 = false := by
          cases h : b14
          · rfl
          · exact absurd (R.o14 h).2.1 (by rw [hfl]; exact Bool.false_ne_true)
        have hng : some g ≠ some gr := fun e => HNE.out.1 (Option.some.inj e)
        have hnm : some bm ≠ some gr := fun e => HNE.out.2.1 (Option.some.inj e)
        have hnk : some w.heap.size ≠ some gr := fun e => HNE.out.2.2 (Option.some.inj e)
        have hhg := blk_grown R.hg HG1.out hng
        rw [h14] at hhg
        exact ⟨b0, b1, b2, b3, b4, b5, b6, b7, b8, b9, b10, true, b12, b13, b14, _, _, _, _, _, _, _, _, _, _, _, _, _, _, gl, rfl, rfl, ⟨R.kept.trans (Kept.of_grown HG1.out HOG.out), (by rw [h14]; exact hhg), R.hmap.kept HG1.out hnm, blk_grown R.hkey HG1.out hnk, (fun h => absurd k8 (by rw [h]; exact Bool.false_ne_true)), (fun _ h => by cases h), (fun _ => HR1.out), (fun h => absurd h (by rw [h14]; exact Bool.false_ne_true)), (fun _ => k8), R.h0, R.h1, R.h2, R.h3, R.h4, R.h5, R.h6, R.h7, R.h8, R.h9, (fun _ => ⟨rfl, HL10.out, blk_grown HQ.out HG1.out (fun e => absurd HLG.out (by have := Option.some.inj e; have := HL10.out; omega))⟩), R.h12, R.h13⟩⟩
    · -- 12
        have hfl : b12 = false := (ready_free hi).2
        have k0 : b0 = true := ready_dep hi rfl 0 rfl
        clear hi
        obtain rfl := HRR.out.h0 k0
        refine wpOp_step rfl (fun K' hK => ?_)
        go_simp
        have R := HRR.out
        exact hK _ _ ⟨b0, b1, b2, b3, b4, b5, b6, b7, b8, b9, b10, b11, true, b13, b14, _, _, _, _, _, _, _, _, _, _, _, _, _, _, gl, rfl, rfl, ⟨R.kept, R.hg, R.hmap, R.hkey, R.row0, R.row1, R.row2, R.o14, R.o11, R.h0, R.h1, R.h2, R.h3, R.h4, R.h5, R.h6, R.h7, R.h8, R.h9, R.h10, (fun _ => rfl), R.h13⟩⟩
    · -- 13
        have hfl : b13 = false := (ready_free hi).2
        have k12 : b12 = true := ready_dep hi rfl 12 rfl
        clear hi
        obtain rfl := HRR.out.h12 k12
        refine wpOp_step rfl (fun K' hK => ?_)
        go_simp
        have R := HRR.out
        exact hK _ _ ⟨b0, b1, b2, b3, b4, b5, b6, b7, b8, b9, b10, b11, b12, true, b14, _, _, _, _, _, _, _, _, _, _, _, _, _, _, gl, rfl, rfl, ⟨R.kept, R.hg, R.hmap, R.hkey, R.row0, R.row1, R.row2, (fun h => ⟨(R.o14 h).1, (R.o14 h).2.1, rfl⟩), R.o11, R.h0, R.h1, R.h2, R.h3, R.h4, R.h5, R.h6, R.h7, R.h8, R.h9, R.h10, R.h12, (fun _ => rfl)⟩⟩
    · -- 14
        have hfl : b14 = false := (ready_free hi).2
        have k4 : b4 = true := ready_dep hi rfl 4 rfl
        have k11 : b11 = true := ready_dep hi rfl 11 rfl
        have k13 : b13 = true := ready_dep hi rfl 13 rfl
        clear hi
        obtain rfl := HRR.out.h13 k13
        obtain ⟨A22, c22, hA22⟩ := Kd.R_slice (HRR.out.row2 k11)
        obtain ⟨n22, hn22⟩ : ∃ k, (L.eraseIdx i ++ [x]).length = k := ⟨_, rfl⟩
        rw [hn22] at hA22
        clear hn22
        subst hA22
        have hcg := (blk_cell HRR.out.hg 1)
        have hfg := blk_frozen HRR.out.hg 1
        have hcg' : w'.cell? ⟨g, 1, none⟩ = some (if b14 then .slice A22 n22 c22 else .slice (some ⟨gr, 0, none⟩) L.length c) := hcg
        clear hcg
        refine wpOp_step rfl (fun K' hK => ?_)
        go_simp
        have R := HRR.out
        exact hK _ _ ⟨b0, b1, b2, b3, b4, b5, b6, b7, b8, b9, b10, b11, b12, b13, true, _, _, _, _, _, _, _, _, _, _, _, _, _, _, gl, rfl, rfl, ⟨R.kept.trans (Kept.set HOKG.out), (blk_put R.hg 1 _ rfl), R.hmap.setCell (a := ⟨g, 1, none⟩) HNE2.out _, R.hkey.kept (Kept.set (ok := fun k => k = g) rfl) HKG.out, (fun h => absurd (R.o11 k11) (by rw [h]; exact Bool.false_ne_true)), (fun _ h => absurd k11 (by rw [h]; exact Bool.false_ne_true)), (fun h => Kd.R_step (R.row2 h) (fun k hk _ => Below.heap_setCell _ _ _ k hk.2.1)), (fun _ => ⟨k4, k11, k13⟩), R.o11, R.h0, R.h1, R.h2, R.h3, R.h4, R.h5, R.h6, R.h7, R.h8, R.h9, (fun h => let ⟨e, l, q⟩ := R.h10 h; ⟨e, l, q.kept (Kept.set (ok := fun k => k = g) rfl) (by have := HLT.out; omega)⟩), R.h12, R.h13⟩⟩
  case done =>
    rintro l a w' ⟨b0, b1, b2, b3, b4, b5, b6, b7, b8, b9, b10, b11, b12, b13, b14, u11, u12, u13, u14, u15, u16, u17, u18, u19, u20, u21, u22, u23, u24, gl, rfl, rfl, hR⟩ hi
    have hd := all_done rfl (by kernel_rfl) hi
    clear hi
    obtain rfl : b0 = true := hd 0 (by decide)
    obtain rfl : b1 = true := hd 1 (by decide)
    obtain rfl : b2 = true := hd 2 (by decide)
    obtain rfl : b3 = true := hd 3 (by decide)
    obtain rfl : b4 = true := hd 4 (by decide)
    obtain rfl : b5 = true := hd 5 (by decide)
    obtain rfl : b6 = true := hd 6 (by decide)
    obtain rfl : b7 = true := hd 7 (by decide)
    obtain rfl : b8 = true := hd 8 (by decide)
    obtain rfl : b9 = true := hd 9 (by decide)
    obtain rfl : b10 = true := hd 10 (by decide)
    obtain rfl : b11 = true := hd 11 (by decide)
    obtain rfl : b12 = true := hd 12 (by decide)
    obtain rfl : b13 = true := hd 13 (by decide)
    obtain rfl : b14 = true := hd 14 (by decide)
    have HRR := Aside0.mk hR
    clear hR hd
    go_wp2
    go_end0
    have R := HRR.out
    exact ⟨rfl, (Kept.of_below ok HN.out).trans (R.kept.mono fun k hk => hk.1), u22, R.hg, Kd.R_mono (R.row2 rfl) (fun k hk => ⟨hk.1.1, hk.2⟩), R.hmap, HCn.out.okg.1, HCn.out.okm.1, HCn.out.geg, HCn.out.gem, HCn.out.ne⟩
end Go.Proofs.Ytlpbfhbfaphicaa.C19
