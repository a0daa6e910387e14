/- Layer 19 (cache): Put, walked. -/
import Derived.Test.YtlpbfhbfaphicaaGet19
namespace Go.Proofs.Ytlpbfhbfaphicaa.C19
open Go Go.RowKit Go.Maps Go.Lib Go.Sort Go.Proofs.YtlpbfhbfaphicaaW.PrintWords Go.Proofs.YtlpbfhbfaphicaaW.PrintLast Go.Proofs.YtlpbfhbfaphicaaW.PrintMore Go.Proofs.Ytlpbfhbfaphicaa.XA

set_option linter.unusedVariables false
theorem nodup_putP {room : Int} {P : List Pr} (hn : (P.map Prod.fst).Nodup) (k : K3) (x : Int) : ((putP room P k x).map Prod.fst).Nodup := by
  unfold putP
  by_cases c0 : room = 0
  · rw [if_pos c0]; exact hn
  rw [if_neg c0]
  by_cases c1 : (lookP P k).isSome = true
  · rw [if_pos c1]; exact nodup_last hn k x
  rw [if_neg c1]
  have hl : lookP P k = none := by simpa using c1
  by_cases c2 : (P.length : Int) = room
  · rw [if_pos c2]
    have ht : (P.tail.map Prod.fst).Nodup := by
      rw [List.map_tail]
      exact hn.sublist (List.tail_sublist _)
    refine nodup_put ht (look_none.2 fun h => look_none.1 hl ?_)
    rw [List.map_tail] at h
    exact List.mem_of_mem_tail h
  · rw [if_neg c2]; exact nodup_put hn hl
theorem wf_putP {room : Int} {P : List Pr} (h : ∀ e ∈ P, Wk e.1 ∧ W64 e.2) {k : K3} {x : Int} (hk : Wk k) (hx : W64 x) : ∀ e ∈ putP room P k x, Wk e.1 ∧ W64 e.2 := by
  unfold putP
  by_cases c0 : room = 0
  · rw [if_pos c0]; exact h
  rw [if_neg c0]
  by_cases c1 : (lookP P k).isSome = true
  · rw [if_pos c1]; exact wf_snoc (wf_del h k) hk hx
  rw [if_neg c1]
  by_cases c2 : (P.length : Int) = room
  · rw [if_pos c2]; exact wf_snoc (fun e he => h e (List.mem_of_mem_tail he)) hk hx
  · rw [if_neg c2]; exact wf_snoc h hk hx
theorem len_putP {room : Int} {P : List Pr} (hn : (P.map Prod.fst).Nodup) (hl : (P.length : Int) ≤ room) (k : K3) (x : Int) : ((putP room P k x).length : Int) ≤ room := by
  unfold putP
  by_cases c0 : room = 0
  · rw [if_pos c0]; exact hl
  rw [if_neg c0]
  by_cases c1 : (lookP P k).isSome = true
  · rw [if_pos c1]
    obtain ⟨v, hv⟩ := Option.isSome_iff_exists.1 c1
    have := del_len hn hv
    rw [List.length_append]
    simp
    omega
  rw [if_neg c1]
  by_cases c2 : (P.length : Int) = room
  · rw [if_pos c2, List.length_append, List.length_tail]
    simp
    omega
  · rw [if_neg c2, List.length_append]
    simp
    omega
structure RA (ok : Nat → Prop) (base g bm kb : Nat) (room h m : Int) (v : Value) (L : List K3) (x : K3) (D : DataW Value) (n : Nat) (w1 w' : World) (b0 b1 b2 b3 b4 b5 b6 b7 b8 b9 b10 : Bool) (a58 a59 a60 a61 a62 a63 a64 a65 a66 a67 : Value) (gl : Nat) : Prop where
  kept : Kept ok w1 w'
  hg : w'.heap[g]? = some (.cells #[.int .i64 room, if b10 then a65 else v, .map (some bm), .int .i64 h, .int .i64 m] 65 (0, 0))
  hmap : w'.ownsMap Try.prog 35 (plainElem Try.prog 3) bm n D
  hkey : BoxK w' kb x
  row0 : b7 = false → kk.R 35 w' base (fun k => ok k ∧ k ≠ g ∧ k ≠ bm) v L
  row2 : b7 = true → kk.R 35 w' base (fun k => ok k ∧ k ≠ g ∧ k ≠ bm) a65 (L ++ [x])
  o10 : b10 = true → b4 = true ∧ b7 = true
  h0 : b0 = true → a58 = .pointer (some ⟨g, 0, none⟩)
  h1 : b1 = true → a59 = .pointer (some ⟨g, 0, none⟩)
  h2 : b2 = true → a60 = .pointer (some ⟨g, 0, none⟩)
  h3 : b3 = true → a61 = .pointer (some ⟨g, 1, none⟩)
  h4 : b4 = true → a62 = v
  h5 : b5 = true → a63 = kv x
  h6 : b6 = true → a64 = .slice (some ⟨gl, 0, none⟩) 1 1 ∧ w1.heap.size ≤ gl ∧ BoxK w' gl x
  h8 : b8 = true → a66 = .pointer (some ⟨g, 0, none⟩)
  h9 : b9 = true → a67 = .pointer (some ⟨g, 1, none⟩)
def IA (mk : Value → Value → Value → Value → Value → Value → Value → Value → Value → Value → Act) (ok : Nat → Prop) (base g bm kb : Nat) (room h m : Int) (v : Value) (L : List K3) (x : K3) (D : DataW Value) (n : Nat) (w1 : World) (l : Array Bool) (a : Act) (w' : World) : Prop :=
  ∃ b0 b1 b2 b3 b4 b5 b6 b7 b8 b9 b10 : Bool, ∃ a58 a59 a60 a61 a62 a63 a64 a65 a66 a67 : Value, ∃ gl : Nat, l = [b0, b1, b2, b3, b4, b5, b6, b7, b8, b9, b10].toArray ∧ a = mk a58 a59 a60 a61 a62 a63 a64 a65 a66 a67 ∧ RA ok base g bm kb room h m v L x D n w1 w' b0 b1 b2 b3 b4 b5 b6 b7 b8 b9 b10 a58 a59 a60 a61 a62 a63 a64 a65 a66 a67 gl
set_option maxHeartbeats 4000000 in
set_option maxRecDepth 100000 in
theorem put_calls {w : World} {base g N : Nat} {ok : Nat → Prop} {room h m x : Int} {P : List Pr} {k : K3} (H : CacP w base ok g room h m P N) (hk : Wk k) (hx : W64 x) (hN : N < 1000000) (hfresh : ∀ q, w.heap.size ≤ q → ok q) (hbase : base ≤ w.heap.size) :
    Calls Try.prog 16 #[.pointer (some ⟨g, 0, none⟩), kv k, .int .i64 x] w fun e w' => e = .returned (.tuple #[]) ∧ Kept ok w w' ∧ CacP w' base ok g room h m (putP room P k x) (N + 1) := by
  obtain ⟨⟨bm, v, D, n, HC0, hM, hn⟩, hnd, hwf, hlen, hroom⟩ := H
  obtain ⟨P1, hP1⟩ : ∃ z, putP room P k x = z := ⟨_, rfl⟩
  have HPN := Aside0.mk (nodup_putP (room := room) hnd k x)
  have HPW := Aside0.mk (wf_putP (room := room) hwf hk hx)
  have HPL := Aside0.mk (len_putP hnd hlen k x)
  rw [hP1] at HPN HPW HPL
  rw [hP1]
  have HP1 := Aside0.mk hP1
  have HM := Aside0.mk hM
  have HND := Aside0.mk hnd
  have HWF := Aside0.mk hwf
  have HLE := Aside0.mk hlen
  have HRO := Aside0.mk hroom
  have HNN := Aside0.mk hn
  have HNM := Aside0.mk hN
  have HKW := Aside0.mk hk
  have HXW := Aside0.mk hx
  have HCC := Aside0.mk HC0
  have HFR0 := Aside0.mk hfresh
  have HBS0 := Aside0.mk hbase
  clear hM hnd hwf hlen hroom hn hk hx hN HC0 hfresh hbase hP1
  go_enter Try.func16, Try.ntmps16
  go_upto_region 1 with (fail)
  have hb0 : Below w.heap.size w (w.alloc (.cells (kc k).toArray 35 (0, 0))) := below_alloc (Below.refl _ _) _
  have HC : Aside0 (Cac (w.alloc (.cells (kc k).toArray 35 (0, 0))) base (fun q => ok q ∧ q ≠ w.heap.size) g bm room h m v (P.map Prod.fst) D n) := ⟨(HCC.out.mono (fun q hq ho => ⟨ho, Nat.ne_of_lt hq⟩)).below hb0⟩
  have HK : Aside0 (BoxK (w.alloc (.cells (kc k).toArray 35 (0, 0))) w.heap.size k) := ⟨BoxK.new w k⟩
  have HKP : Aside0 (Below w.heap.size w (w.alloc (.cells (kc k).toArray 35 (0, 0)))) := ⟨hb0⟩
  have HSZ : Aside0 (w.heap.size + 1 ≤ (w.alloc (.cells (kc k).toArray 35 (0, 0))).heap.size) := ⟨by rw [World.size_alloc]; exact Nat.le_refl _⟩
  clear hb0
  generalize (w.alloc (Obj.cells #[.int .u64 k.f0, .int .i64 k.f1, .int .i64 k.f2] 35)) = W0 at HC HK HKP HSZ ⊢
  obtain ⟨⟨xc0, _, xc2, _, _⟩, _⟩ := HC.out.cells
  by_cases c0 : room = 0
  · subst c0
    have hP : P1 = P := by
      have h1 := HP1.out
      unfold putP at h1
      rw [if_pos rfl] at h1
      exact h1.symm
    have HPP := Aside0.mk hP
    clear hP
    go_wp2
    refine bodyPost_ret (results_none rfl _ _ _) rfl ?_
    rw [HPP.out]
    exact ⟨rfl, Kept.of_below ok HKP.out, ⟨bm, v, D, n, HC.out.mono (fun q _ ho => ho.1), HM.out, Nat.le_succ_of_le HNN.out⟩, HND.out, HWF.out, HLE.out, HRO.out⟩
  have cb0 : (room == 0) = false := by simpa using c0
  have HC0 := Aside0.mk c0
  clear c0
  go_upto_region 2 with (fail)
  obtain ⟨xk0, xk1, xk2⟩ := HK.out.cells
  have kc2 := cell_regrown xc2
  have kk0 := cell_regrown xk0
  have kk1 := cell_regrown xk1
  have kk2 := cell_regrown xk2
  clear xc0 xc2 xk0 xk1 xk2
  obtain ⟨lk, hlk0⟩ : ∃ z, lookP P k = z := ⟨_, rfl⟩
  have HLK := Aside0.mk hlk0
  clear hlk0
  have hlk : ∀ d os, (Instr.lookup 62 (.map (some bm)) (.agg #[.int .u64 k.f0, .int .i64 k.f1, .int .i64 k.f2]) true).run Try.prog (grow (redrawn W0 d) os) = .ok (.tuple #[.int .i64 (lk.getD 0), .bool lk.isSome]) (grow (redrawn W0 d) os) := fun d os => HLK.out ▸ look_run (HC.out.below (below_regrown W0 d os)).map HM.out HKW.out
  refine wp_region_quiet_below (by kernel_rfl) (by kernel_rfl) ?_
  repeat (go_big_quiet_step (fail))
  refine wpQuiet_nil ?_
  intro _ hw'
  obtain ⟨⟨d7, o7⟩, hw''⟩ := hw'
  subst hw''
  clear hlk kc2 kk0 kk1 kk2
  have HN := Aside0.mk (below_step HKP.out (below_regrown W0 d7 o7))
  have HCn := Aside0.mk (HC.out.below (below_regrown W0 d7 o7))
  have HKn := Aside0.mk (HK.out.below (below_regrown W0 d7 o7))
  have HSn := Aside0.mk (Nat.le_trans HSZ.out (below_regrown W0 d7 o7).size)
  clear HKP HC HK HSZ
  dsimp only at *
  generalize (grow (redrawn W0 d7) o7) = W1 at HN HCn HKn HSn ⊢
  go_upto_if 26 with (fail)
  have HFR : Aside0 (∀ q, W1.heap.size ≤ q → ok q ∧ q ≠ w.heap.size) := ⟨fun q hq => by have := HSn.out; exact ⟨HFR0.out q (by omega), by omega⟩⟩
  have HBS : Aside0 (base ≤ W1.heap.size) := ⟨by have := HSn.out; have := HBS0.out; omega⟩
  go_cut [] (fun wc => ∃ (v9 : Value) (P9 Q9 : List Pr) (D9 : DataW Value), Aside0 (Kept (fun q => ok q ∧ q ≠ w.heap.size) W1 wc) ∧ Aside0 (Cac wc base (fun q => ok q ∧ q ≠ w.heap.size) g bm room h m v9 (P9.map Prod.fst ++ [k]) D9 n) ∧ Aside0 (MRel D9 Q9 ∧ (∀ k', lookP (P9 ++ [(k, x)]) k' = if k = k' then some x else lookP Q9 k') ∧ P1 = P9 ++ [(k, x)]))
  case first =>
    cases lk with
    | some v0 =>
      obtain ⟨i, hi, hfirst⟩ := look_at HLK.out
      have HKE := Aside0.mk (keys_getP (v := v0) HND.out HLK.out hi)
      have hP1 : P1 = delP P k ++ [(k, x)] := by
        have h1 := HP1.out
        unfold putP at h1
        rw [if_neg HC0.out, HLK.out] at h1
        exact h1.symm
      have HPP := Aside0.mk hP1
      obtain ⟨xk0, xk1, xk2⟩ := HKn.out.cells
      have CU := Aside0.mk (used_calls HCn.out HFR.out HBS.out hi hfirst (by have h1 := HLE.out; have h2 := HRO.out; rw [List.length_map]; omega))
      clear hP1 hi hfirst
      go_wp2_with (go_at_call 29; (with_reducible refine CU.out.mono ?_); rintro e w3 ⟨rfl, hk3, v3, hc3⟩; have HK3 := Aside0.mk hk3; have HC3 := Aside0.mk hc3; clear hk3 hc3)
      go_meet
      case rel =>
        have hc := HC3.out
        rw [HKE.out, List.map_append] at hc
        exact ⟨v3, delP P k, P, D, HK3, ⟨hc⟩, ⟨HM.out, fun k' => look_last P k k' x, HPP.out⟩⟩
    | none =>
      obtain ⟨⟨xc0, xc1, _, _, _⟩, _⟩ := HCn.out.cells
      obtain ⟨A0, c0, hv0⟩ := Kd.R_slice HCn.out.row
      rw [List.length_map] at hv0
      subst hv0
      have kc0 := cell_regrown xc0
      have kc1 := cell_regrown xc1
      clear xc0 xc1
      go_upto_region 5 with (fail)
      refine wp_region_quiet_below (by kernel_rfl) (by kernel_rfl) ?_
      repeat (go_big_quiet_step (fail))
      refine wpQuiet_nil ?_
      intro _ hw'
      obtain ⟨⟨d8, o8⟩, hw''⟩ := hw'
      subst hw''
      clear kc0 kc1
      have HN2 : Aside0 (Kept (fun q => ok q ∧ q ≠ w.heap.size) W1 (grow (redrawn W1 d8) o8)) := ⟨Kept.of_below _ (below_regrown W1 d8 o8)⟩
      have HC2 := Aside0.mk (HCn.out.below (below_regrown W1 d8 o8))
      have HK2 := Aside0.mk (HKn.out.below (below_regrown W1 d8 o8))
      dsimp only at *
      generalize (grow (redrawn W1 d8) o8) = W2 at HN2 HC2 HK2 ⊢
      go_upto_if 39 with (fail)
      go_cut [] (fun wc => ∃ (v8 : Value) (P8 : List Pr) (D8 : DataW Value), Aside0 (Kept (fun q => ok q ∧ q ≠ w.heap.size) W1 wc) ∧ Aside0 (Cac wc base (fun q => ok q ∧ q ≠ w.heap.size) g bm room h m v8 (P8.map Prod.fst) D8 n) ∧ Aside0 (MRel D8 P8 ∧ lookP P8 k = none ∧ P1 = P8 ++ [(k, x)] ∧ P8.length ≤ 1000))
      case first =>
        by_cases c3 : (P.length : Int) = room
        · have cb3 : ((P.length : Int) == room) = true := by simpa using c3
          have hpos : 0 < P.length := by have := HC0.out; omega
          obtain ⟨gr, cr, hv, _, hgr, _⟩ := Kd.R_form HC2.out.row (by rw [List.length_map]; exact hpos)
          rw [List.length_map] at hv
          injection hv with hA0 _ hcr
          subst hA0
          subst hcr
          obtain ⟨e0, P', hPe⟩ : ∃ e0 P', P = e0 :: P' := by
            cases P with
            | nil => simp at hpos
            | cons e0 P' => exact ⟨e0, P', rfl⟩
          have hP1 : P1 = P' ++ [(k, x)] := by
            have h1 := HP1.out
            unfold putP at h1
            rw [if_neg HC0.out, HLK.out] at h1
            simp only [Option.isSome_none, Bool.false_eq_true, if_false] at h1
            rw [if_pos c3, hPe] at h1
            exact h1.symm
          have hrd : rd_T35 (P.map Prod.fst) 0 = e0.1 := by
            rw [hPe]
            rfl
          obtain ⟨ad, hav, hx0, hx1, hx2⟩ := at_T35 (Kd.R_reads' HC2.out.row).2.2 0 (Int.le_refl _) (by rw [List.length_map]; omega)
          injection hav with hav
          subst hav
          rw [hrd] at hx0 hx1 hx2
          have kx0 : W2.cell? ⟨gr, 0, none⟩ = some (.int .u64 e0.1.f0) := hx0
          have kx1 : W2.cell? ⟨gr, 1, none⟩ = some (.int .i64 e0.1.f1) := hx1
          have kx2 : W2.cell? ⟨gr, 2, none⟩ = some (.int .i64 e0.1.f2) := hx2
          obtain ⟨⟨_, xc1, xc2, _, _⟩, _⟩ := HC2.out.cells
          have hlt0 : (0 : Int) < (P.length : Int) := by omega
          have HWE : Aside0 (Wk e0.1) := ⟨(HWF.out e0 (by rw [hPe]; exact List.mem_cons_self)).1⟩
          have HPE := Aside0.mk hPe
          have HPP := Aside0.mk hP1
          have HGR := Aside0.mk hgr
          have HLP : Aside0 (P.length ≤ 64) := ⟨by have h1 := HLE.out; have h2 := HRO.out; omega⟩
          have hne : ¬ P = [] := fun e => by rw [e] at hpos; simp at hpos
          clear hx0 hx1 hx2 hrd hPe hP1 c3
          go_upto_region 6 with (fail)
          go_still_tail 10, (by kernel_rfl)
          change wpList _ _ _ _ _ W2.drew
          refine wpList_delete_own _ rfl (.tmp 43) (.tmp 49) 62 35 rfl 3 keyed Try.underlying62 (plainElem Try.prog 3) bm n D rfl HC2.out.map.drew (kv e0.1) (kl e0.1) rfl (keyOf_kl HWE.out) ?_
          intro w3 hown hturn
          have hgt := hturn.grown
          have hg1 : W2.grownBy w3 (some bm) := ⟨hgt.os, hgt.tape, hgt.output, hgt.size, fun i hi hne => hgt.block i hi hne⟩
          have HC3 : Aside0 (Cac w3 base (fun q => ok q ∧ q ≠ w.heap.size) g bm room h m (.slice (some ⟨gr, 0, none⟩) P.length c0) (P.map Prod.fst) (D.del (kl e0.1)) n) := ⟨blk_grown HC2.out.blk hg1 (fun e => HC2.out.ne (Option.some.inj e).symm), Kd.R_step HC2.out.row fun q hq hl => hg1.block q hl (fun e => hq.2.2 (Option.some.inj e)), hown, HC2.out.okg, HC2.out.okm, HC2.out.geg, HC2.out.gem, HC2.out.ne⟩
          have HK3 : Aside0 (Kept (fun q => ok q ∧ q ≠ w.heap.size) W1 w3) := ⟨HN2.out.trans (Kept.of_grown hg1 HC2.out.okm)⟩
          clear hown hturn hgt hg1 xc1 xc2 kx0 kx1 kx2
          have hrow := HC3.out.row
          have hll : (P.map Prod.fst).length = P.length := List.length_map _
          rw [← hll] at hrow
          have CD0 := delete_calls (i := 0) hrow (by rw [hll]; exact hpos)
          rw [hll] at CD0
          have CD : Aside0 (Calls Try.prog 30 #[.slice (some ⟨gr, 0, none⟩) P.length c0, .int .i64 0, .int .i64 1] w3 fun e w' => e = .returned (.slice (some ⟨gr, 0, none⟩) (P.length - 1) c0) ∧ kk.R 35 w' base (fun q => (ok q ∧ q ≠ w.heap.size) ∧ q ≠ g ∧ q ≠ bm) (.slice (some ⟨gr, 0, none⟩) (P.length - 1) c0) ((P.map Prod.fst).eraseIdx 0) ∧ w3.grownBy w' (some gr)) := ⟨CD0⟩
          obtain ⟨⟨_, xc1, _, _, _⟩, _⟩ := HC3.out.cells
          clear hrow hll CD0
          go_wp2_with (go_at_call 30; (with_reducible refine CD.out.mono ?_); rintro e w4 ⟨rfl, hr4, hg4⟩; have HR4 := Aside0.mk hr4; have HG4 := Aside0.mk hg4; have hb4 := blk_grown HC3.out.blk hg4 (fun e => (HC3.out.row.1 gr rfl).2.1 (Option.some.inj e).symm); have HB4 := Aside0.mk hb4; have hf4 := blk_frozen hb4 1; have hc4 := blk_cell hb4 1; clear hr4 hg4 hb4)
          go_meet
          case rel =>
            have hm4 := HC3.out.map.kept HG4.out (fun e => (HC3.out.row.1 gr rfl).2.2 (Option.some.inj e).symm)
            have hR := HR4.out
            have hP' : (P.map Prod.fst).eraseIdx 0 = P'.map Prod.fst := by rw [HPE.out]; rfl
            rw [hP'] at hR
            refine ⟨.slice (some ⟨gr, 0, none⟩) (P.length - 1) c0, P', D.del (kl e0.1), ⟨HK3.out.trans ((Kept.of_grown HG4.out (HC3.out.row.1 gr rfl).1).trans (Kept.set HC3.out.okg))⟩, ⟨blk_put HB4.out 1 _ rfl, Kd.R_step hR (fun q hq _ => Below.heap_setCell _ _ _ q hq.2.1), hm4.setCell (a := ⟨g, 1, none⟩) HC3.out.ne _, HC3.out.okg, HC3.out.okm, HC3.out.geg, HC3.out.gem, HC3.out.ne⟩, ⟨HM.out.del HWE.out (fun k' => ?_), ?_, HPP.out, ?_⟩⟩
            · have h1 := look_tail HND.out (e := e0) (by rw [HPE.out]; rfl) k'
              rw [HPE.out] at h1 ⊢
              exact h1
            · have h1 := look_tail HND.out (e := e0) (by rw [HPE.out]; rfl) k
              rw [HLK.out] at h1
              rw [HPE.out] at h1
              have h2 : lookP P' k = if e0.1 = k then none else none := h1
              rw [h2]
              split <;> rfl
            · have h1 := HLP.out
              rw [HPE.out, List.length_cons] at h1
              omega
        · have cb3 : ((P.length : Int) == room) = false := by simpa using c3
          have hP1 : P1 = P ++ [(k, x)] := by
            have h1 := HP1.out
            unfold putP at h1
            rw [if_neg HC0.out, HLK.out] at h1
            simp only [Option.isSome_none, Bool.false_eq_true, if_false] at h1
            rw [if_neg c3] at h1
            exact h1.symm
          have HPP := Aside0.mk hP1
          clear c3 hP1
          go_wp2
          go_meet
          case rel => exact ⟨_, P, D, HN2, HC2, ⟨HM.out, HLK.out, HPP.out, by have h1 := HLE.out; have h2 := HRO.out; omega⟩⟩
      case rest =>
        obtain ⟨v8, P8, D8, HKT, HC8, HR8⟩ := hcut
        have HBK : Aside0 (BoxK wc w.heap.size k) := ⟨HKn.out.kept HKT.out (fun c => c.2 rfl)⟩
        have HLT : Aside0 (g < wc.heap.size) := ⟨HC8.out.lt.1⟩
        have HLG : Aside0 (∀ q, v8.ownBlock = some q → q < wc.heap.size) := ⟨HC8.out.lt.2.2⟩
        have HNE : Aside0 (some g ≠ v8.ownBlock ∧ some bm ≠ v8.ownBlock ∧ some w.heap.size ≠ v8.ownBlock) := ⟨fun e => (HC8.out.row.1 g e.symm).2.1 rfl, fun e => (HC8.out.row.1 bm e.symm).2.2 rfl, fun e => (HC8.out.row.1 w.heap.size e.symm).1.2 rfl⟩
        have HNE2 : Aside0 (bm ≠ g) := ⟨HC8.out.ne⟩
        have HKG : Aside0 (¬ w.heap.size = g) := ⟨fun e => HC8.out.okg.2 e.symm⟩
        have HOG : Aside0 (∀ q, v8.ownBlock = some q → (ok q ∧ q ≠ w.heap.size)) := ⟨fun q hq => (HC8.out.row.1 q hq).1⟩
        have HOKG : Aside0 (ok g ∧ g ≠ w.heap.size) := ⟨HC8.out.okg⟩
        have HFR8 : Aside0 (∀ q, wc.heap.size ≤ q → (ok q ∧ q ≠ w.heap.size) ∧ q ≠ g ∧ q ≠ bm) := ⟨fun q hq => by
          have h1 := HKT.out.size
          have h2 := HC8.out.lt
          exact ⟨HFR.out q (by omega), by omega, by omega⟩⟩
        have HBS8 : Aside0 (base ≤ wc.heap.size) := ⟨by have := HKT.out.size; have := HBS.out; omega⟩
        have HLN : Aside0 ((P8.map Prod.fst).length ≤ 100000) := ⟨by have := HR8.out.2.2.2; rw [List.length_map]; omega⟩
        go_upto_region 8 with (fail)
        refine wp_region_inv (IA (fun a58 a59 a60 a61 a62 a63 a64 a65 a66 a67 => { tmps := #[.pointer (some ⟨g, 0, none⟩), kv k, .int .i64 x, undef, .pointer (some ⟨w.heap.size, 0, none⟩), undef, .int .i64 ((none : Option Int).getD 0), .bool ((none : Option Int).isSome), u8, u9, u10, u11, u12, u13, u14, u15, u16, u17, u18, u19, u20, u21, u22, u23, u24, u25, u26, u27, u28, u29, u30, u31, u32, u33, u34, u35, u36, u37, u38, u39, u40, u41, u42, u43, u44, u45, u46, u47, u48, u49, u50, u51, u52, u53, u54, u55, u56, u57, a58, a59, a60, a61, a62, a63, a64, a65, a66, a67, u68, u69, u70, u71, u72, u73], defers := [] }) (fun q => ok q ∧ q ≠ w.heap.size) base g bm w.heap.size room h m v8 (P8.map Prod.fst) k D8 n wc) (by kernel_rfl) ?start ?step ?done
        case start =>
          exact ⟨false, false, false, false, false, false, false, false, false, false, false, u58, u59, u60, u61, u62, u63, u64, u65, u66, u67, 0, rfl, rfl, ⟨⟨rfl, rfl, rfl, Nat.le_refl _, fun _ _ _ => rfl⟩, HC8.out.blk, HC8.out.map.drew, HBK.out, (fun _ => HC8.out.row), (fun h => by cases h), (fun h => by cases h), (fun h => by cases h), (fun h => by cases h), (fun h => by cases h), (fun h => by cases h), (fun h => by cases h), (fun h => by cases h), (fun h => by cases h), (fun h => by cases h), (fun h => by cases h)⟩⟩
        case step =>
          clear HFR HBS
          have HFR := HFR8
          have HBS := HBS8
          rintro l a w' q ⟨b0, b1, b2, b3, b4, b5, b6, b7, b8, b9, b10, a58, a59, a60, a61, a62, a63, a64, a65, a66, a67, gl, rfl, rfl, hR⟩ hi
          have HRR := Aside0.mk hR
          clear hR
          have hq : q < 11 := (ready_free hi).1
          have hcase : q = 0 ∨ q = 1 ∨ q = 2 ∨ q = 3 ∨ q = 4 ∨ q = 5 ∨ q = 6 ∨ q = 7 ∨ q = 8 ∨ q = 9 ∨ q = 10 := by omega
          clear hq
          dsimp only
          rcases hcase with rfl | rfl | rfl | rfl | rfl | rfl | rfl | rfl | rfl | rfl | rfl
          · -- 0
              have hfl : b0 = false := (ready_free hi).2
              clear hi
              refine wpOp_step rfl (fun K' hK => ?_)
              go_simp
              have R := HRR.out
              exact hK _ _ ⟨true, b1, b2, b3, b4, b5, b6, b7, b8, b9, b10, _, _, _, _, _, _, _, _, _, _, gl, rfl, rfl, ⟨R.kept, R.hg, R.hmap, R.hkey, R.row0, R.row2, R.o10, (fun _ => rfl), R.h1, R.h2, R.h3, R.h4, R.h5, R.h6, R.h8, R.h9⟩⟩
          · -- 1
              have hfl : b1 = false := (ready_free hi).2
              clear hi
              refine wpOp_step rfl (fun K' hK => ?_)
              go_simp
              have R := HRR.out
              exact hK _ _ ⟨b0, true, b2, b3, b4, b5, b6, b7, b8, b9, b10, _, _, _, _, _, _, _, _, _, _, gl, rfl, rfl, ⟨R.kept, R.hg, R.hmap, R.hkey, R.row0, R.row2, R.o10, R.h0, (fun _ => rfl), R.h2, R.h3, R.h4, R.h5, R.h6, R.h8, R.h9⟩⟩
          · -- 2
              have hfl : b2 = false := (ready_free hi).2
              have k1 : b1 = true := ready_dep hi rfl 1 rfl
              clear hi
              obtain rfl := HRR.out.h1 k1
              refine wpOp_step rfl (fun K' hK => ?_)
              go_simp
              have R := HRR.out
              exact hK _ _ ⟨b0, b1, true, b3, b4, b5, b6, b7, b8, b9, b10, _, _, _, _, _, _, _, _, _, _, gl, rfl, rfl, ⟨R.kept, R.hg, R.hmap, R.hkey, R.row0, R.row2, R.o10, R.h0, R.h1, (fun _ => rfl), R.h3, R.h4, R.h5, R.h6, R.h8, R.h9⟩⟩
          · -- 3
              have hfl : b3 = false := (ready_free hi).2
              have k2 : b2 = true := ready_dep hi rfl 2 rfl
              clear hi
              obtain rfl := HRR.out.h2 k2
              refine wpOp_step rfl (fun K' hK => ?_)
              go_simp
              have R := HRR.out
              exact hK _ _ ⟨b0, b1, b2, true, b4, b5, b6, b7, b8, b9, b10, _, _, _, _, _, _, _, _, _, _, gl, rfl, rfl, ⟨R.kept, R.hg, R.hmap, R.hkey, R.row0, R.row2, R.o10, R.h0, R.h1, R.h2, (fun _ => rfl), R.h4, R.h5, R.h6, R.h8, R.h9⟩⟩
          · -- 4
              have hfl : b4 = false := (ready_free hi).2
              have k3 : b3 = true := ready_dep hi rfl 3 rfl
              clear hi
              obtain rfl := HRR.out.h3 k3
              have h14 : b10 = false := by
                cases h : b10
                · rfl
                · exact absurd (HRR.out.o10 h).1 (by rw [hfl]; exact Bool.false_ne_true)
              have hcg : w'.cell? ⟨g, 1, none⟩ = some v8 := by
                have := (blk_cell HRR.out.hg 1)
                rw [h14] at this
                exact this
              clear h14
              refine wpOp_step rfl (fun K' hK => ?_)
              go_simp
              have R := HRR.out
              exact hK _ _ ⟨b0, b1, b2, b3, true, b5, b6, b7, b8, b9, b10, _, _, _, _, _, _, _, _, _, _, gl, rfl, rfl, ⟨R.kept, R.hg, R.hmap, R.hkey, R.row0, R.row2, (fun h => ⟨rfl, (R.o10 h).2⟩), R.h0, R.h1, R.h2, R.h3, (fun _ => rfl), R.h5, R.h6, R.h8, R.h9⟩⟩
          · -- 5
              have hfl : b5 = false := (ready_free hi).2
              clear hi
              obtain ⟨ck0, ck1, ck2⟩ := HRR.out.hkey.cells
              refine wpOp_step rfl (fun K' hK => ?_)
              go_simp
              have R := HRR.out
              exact hK _ _ ⟨b0, b1, b2, b3, b4, true, b6, b7, b8, b9, b10, _, _, _, _, _, _, _, _, _, _, gl, rfl, rfl, ⟨R.kept, R.hg, R.hmap, R.hkey, R.row0, R.row2, R.o10, R.h0, R.h1, R.h2, R.h3, R.h4, (fun _ => rfl), R.h6, R.h8, R.h9⟩⟩
          · -- 6
              have hfl : b6 = false := (ready_free hi).2
              have k5 : b5 = true := ready_dep hi rfl 5 rfl
              clear hi
              obtain rfl := HRR.out.h5 k5
              refine wpOp_step rfl (fun K' hK => ?_)
              go_simp
              have R := HRR.out
              exact hK _ _ ⟨b0, b1, b2, b3, b4, b5, true, b7, b8, b9, b10, _, _, _, _, _, _, _, _, _, _, w'.heap.size, rfl, rfl, ⟨R.kept.trans (Kept.of_below _ (below_alloc (Below.refl _ _) _)), blk_alloc R.hg _, R.hmap.alloc _, blk_alloc R.hkey _, (fun h => Kd.R_below (R.row0 h) (below_alloc (Below.refl _ _) _)), (fun h => Kd.R_below (R.row2 h) (below_alloc (Below.refl _ _) _)), R.o10, R.h0, R.h1, R.h2, R.h3, R.h4, R.h5, (fun _ => ⟨rfl, R.kept.size, BoxK.new w' k⟩), R.h8, R.h9⟩⟩
          · -- 7
              have hfl : b7 = false := (ready_free hi).2
              have k4 : b4 = true := ready_dep hi rfl 4 rfl
              have k6 : b6 = true := ready_dep hi rfl 6 rfl
              clear hi
              obtain rfl := HRR.out.h4 k4
              obtain ⟨e10, l10, q10⟩ := HRR.out.h6 k6
              subst e10
              have hsz := HRR.out.kept.size
              obtain ⟨v1, W1, hrun, hr1, hg1⟩ := append1 (HRR.out.row0 hfl) q10 (fun k hk => HFR.out k (Nat.le_trans hsz hk)) (Nat.le_trans HBS.out hsz) HLN.out
              have HR1 := Aside0.mk hr1
              have HG1 := Aside0.mk hg1
              have HQ := Aside0.mk q10
              have HL10 := Aside0.mk l10
              clear hr1 hg1 hsz q10 l10
              refine wpOp_append rfl rfl (.tmp 62) (.tmp 64) 63 rfl rfl rfl hrun ?_
              have R := HRR.out
              have h14 : b10 = false := by
                cases h : b10
                · rfl
                · exact absurd (R.o10 h).2 (by rw [hfl]; exact Bool.false_ne_true)
              have hng := HNE.out.1
              have hnm := HNE.out.2.1
              have hnk := HNE.out.2.2
              have hhg := blk_grown R.hg HG1.out hng
              rw [h14] at hhg
              exact ⟨b0, b1, b2, b3, b4, b5, b6, true, b8, b9, b10, _, _, _, _, _, _, _, _, _, _, gl, rfl, rfl, ⟨R.kept.trans (Kept.of_row HG1.out HOG.out), (by rw [h14]; exact hhg), R.hmap.kept HG1.out hnm, blk_grown R.hkey HG1.out hnk, (fun h => by cases h), (fun _ => HR1.out), (fun h => absurd h (by rw [h14]; exact Bool.false_ne_true)), R.h0, R.h1, R.h2, R.h3, R.h4, R.h5, (fun _ => ⟨rfl, HL10.out, blk_grown HQ.out HG1.out (fun e => absurd (HLG.out _ e.symm) (by have := HL10.out; omega))⟩), R.h8, R.h9⟩⟩
          · -- 8
              have hfl : b8 = false := (ready_free hi).2
              have k0 : b0 = true := ready_dep hi rfl 0 rfl
              clear hi
              obtain rfl := HRR.out.h0 k0
              refine wpOp_step rfl (fun K' hK => ?_)
              go_simp
              have R := HRR.out
              exact hK _ _ ⟨b0, b1, b2, b3, b4, b5, b6, b7, true, b9, b10, _, _, _, _, _, _, _, _, _, _, gl, rfl, rfl, ⟨R.kept, R.hg, R.hmap, R.hkey, R.row0, R.row2, R.o10, R.h0, R.h1, R.h2, R.h3, R.h4, R.h5, R.h6, (fun _ => rfl), R.h9⟩⟩
          · -- 9
              have hfl : b9 = false := (ready_free hi).2
              have k8 : b8 = true := ready_dep hi rfl 8 rfl
              clear hi
              obtain rfl := HRR.out.h8 k8
              refine wpOp_step rfl (fun K' hK => ?_)
              go_simp
              have R := HRR.out
              exact hK _ _ ⟨b0, b1, b2, b3, b4, b5, b6, b7, b8, true, b10, _, _, _, _, _, _, _, _, _, _, gl, rfl, rfl, ⟨R.kept, R.hg, R.hmap, R.hkey, R.row0, R.row2, R.o10, R.h0, R.h1, R.h2, R.h3, R.h4, R.h5, R.h6, R.h8, (fun _ => rfl)⟩⟩
          · -- 10
              have hfl : b10 = false := (ready_free hi).2
              have k4 : b4 = true := ready_dep hi rfl 4 rfl
              have k7 : b7 = true := ready_dep hi rfl 7 rfl
              have k9 : b9 = true := ready_dep hi rfl 9 rfl
              clear hi
              obtain rfl := HRR.out.h9 k9
              obtain ⟨A22, c22, hA22⟩ := Kd.R_slice (HRR.out.row2 k7)
              obtain ⟨n22, hn22⟩ : ∃ z, (P8.map Prod.fst ++ [k]).length = z := ⟨_, rfl⟩
              rw [hn22] at hA22
              clear hn22
              subst hA22
              have hcg := (blk_cell HRR.out.hg 1)
              have hfg := blk_frozen HRR.out.hg 1
              have hcg' : w'.cell? ⟨g, 1, none⟩ = some (if b10 then .slice A22 n22 c22 else v8) := hcg
              clear hcg
              refine wpOp_step rfl (fun K' hK => ?_)
              go_simp
              have R := HRR.out
              exact hK _ _ ⟨b0, b1, b2, b3, b4, b5, b6, b7, b8, b9, true, _, _, _, _, _, _, _, _, _, _, gl, rfl, rfl, ⟨R.kept.trans (Kept.set HOKG.out), (blk_put R.hg 1 _ rfl), R.hmap.setCell (a := ⟨g, 1, none⟩) HNE2.out _, R.hkey.kept (Kept.set (ok := fun k => k = g) rfl) HKG.out, (fun h => absurd k7 (by rw [h]; exact Bool.false_ne_true)), (fun h => Kd.R_step (R.row2 h) (fun k hk _ => Below.heap_setCell _ _ _ k hk.2.1)), (fun _ => ⟨k4, k7⟩), R.h0, R.h1, R.h2, R.h3, R.h4, R.h5, (fun h => let ⟨e, l, q⟩ := R.h6 h; ⟨e, l, q.kept (Kept.set (ok := fun k => k = g) rfl) (by have := HLT.out; omega)⟩), R.h8, R.h9⟩⟩
        case done =>
          rintro l a w' ⟨b0, b1, b2, b3, b4, b5, b6, b7, b8, b9, b10, a58, a59, a60, a61, a62, a63, a64, a65, a66, a67, gl, rfl, rfl, hR⟩ hi
          have hd := all_done rfl (by kernel_rfl) hi
          clear hi
          obtain rfl : b0 = true := hd 0 (by decide)
          obtain rfl : b1 = true := hd 1 (by decide)
          obtain rfl : b2 = true := hd 2 (by decide)
          obtain rfl : b3 = true := hd 3 (by decide)
          obtain rfl : b4 = true := hd 4 (by decide)
          obtain rfl : b5 = true := hd 5 (by decide)
          obtain rfl : b6 = true := hd 6 (by decide)
          obtain rfl : b7 = true := hd 7 (by decide)
          obtain rfl : b8 = true := hd 8 (by decide)
          obtain rfl : b9 = true := hd 9 (by decide)
          obtain rfl : b10 = true := hd 10 (by decide)
          have HRR := Aside0.mk hR
          clear hR hd
          dsimp only
          go_wp2
          go_meet
          case rel =>
            have R := HRR.out
            exact ⟨a65, P8, P8, D8, ⟨HKT.out.trans R.kept⟩, ⟨R.hg, R.row2 rfl, R.hmap, HC8.out.okg, HC8.out.okm, HC8.out.geg, HC8.out.gem, HC8.out.ne⟩, ⟨HR8.out.1, fun k' => look_put P8 k k' x HR8.out.2.1, HR8.out.2.2.1⟩⟩
  case rest =>
    obtain ⟨v9, P9, Q9, D9, HKT, HC9, HR9⟩ := hcut
    have HBK : Aside0 (BoxK wc w.heap.size k) := ⟨HKn.out.kept HKT.out (fun c => c.2 rfl)⟩
    obtain ⟨⟨_, _, xc2, _, _⟩, _⟩ := HC9.out.cells
    obtain ⟨xk0, xk1, xk2⟩ := HBK.out.cells
    go_upto_region 9 with (fail)
    go_still_tail 6, (by kernel_rfl)
    change wpList _ _ _ _ _ wc.drew
    have hmx : maxLen = 9223372036854775807 := rfl
    refine wpList_mapUpdate_in _ rfl (.tmp 71) (.tmp 72) (.tmp 73) 62 rfl 35 3 keyed Try.underlying62 (plainElem Try.prog 3) bm n D9 rfl HC9.out.map.drew (by have h1 := HNN.out; have h2 := HNM.out; omega) (kv k) (.int .i64 x) (kl k) rfl rfl (keyOf_kl HKW.out) (.lit (.int .i64 x)) [] (plainElem_int Try.underlying3 HXW.out.wf) ?_
    intro w1 hown hturn
    have HOW := Aside0.mk hown
    have HTU := Aside0.mk hturn.grown
    clear hown hturn xc2 xk0 xk1 xk2 hmx
    go_wp2
    go_end0
    have H9 := HC9.out
    have hg1 : wc.grownBy w1 (some bm) := ⟨HTU.out.os, HTU.out.tape, HTU.out.output, HTU.out.size, fun i hi hne => HTU.out.block i hi hne⟩
    refine ⟨rfl, (Kept.of_below ok HN.out).trans ((HKT.out.mono fun q hq => hq.1).trans (Kept.of_grown hg1 H9.okm.1)), ⟨bm, v9, _, n + 1, ?_, HR9.out.1.put (HC9.out.map.isMap) HKW.out (P' := P1) (by rw [HR9.out.2.2]; exact HR9.out.2.1), Nat.succ_le_succ HNN.out⟩, HPN.out, HPW.out, HPL.out, HRO.out⟩
    have hmap : P1.map Prod.fst = P9.map Prod.fst ++ [k] := by rw [HR9.out.2.2, List.map_append]; rfl
    rw [hmap]
    exact ⟨blk_grown H9.blk hg1 (fun e => H9.ne (Option.some.inj e).symm), Kd.R_mono (Kd.R_step H9.row fun q hq hl => hg1.block q hl (fun e => hq.2.2 (Option.some.inj e))) (fun q hq => ⟨hq.1.1, hq.2⟩), HOW.out, H9.okg.1, H9.okm.1, H9.geg, H9.gem, H9.ne⟩
end Go.Proofs.Ytlpbfhbfaphicaa.C19
