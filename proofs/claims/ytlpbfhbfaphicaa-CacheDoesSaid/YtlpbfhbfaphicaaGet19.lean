/- Layer 19 (cache): Get, walked. -/
import Derived.Test.YtlpbfhbfaphicaaKey19
namespace Go.Proofs.Ytlpbfhbfaphicaa.C19
open Go Go.RowKit Go.Maps Go.Lib Go.Sort Go.Proofs.YtlpbfhbfaphicaaW.PrintWords Go.Proofs.YtlpbfhbfaphicaaW.PrintLast Go.Proofs.YtlpbfhbfaphicaaW.PrintMore Go.Proofs.Ytlpbfhbfaphicaa.XA

set_option linter.unusedVariables false
theorem zeroI (w : World) : (zeroValue 3).run Try.prog w = .ok (.int .i64 0) w := by kernel_rfl
theorem look_run {w : World} {bm n : Nat} {D : DataW Value} {P : List Pr} (ho : w.ownsMap Try.prog 35 (plainElem Try.prog 3) bm n D) (hm : MRel D P) {k : K3} (hk : Wk k) :
    (Instr.lookup 62 (.map (some bm)) (kv k) true).run Try.prog w = .ok (.tuple #[.int .i64 ((lookP P k).getD 0), .bool (lookP P k).isSome]) w := by
  obtain ⟨v, ps, hrun, hv⟩ := ho.look_ok keyed Try.underlying62 (zeroI w) (plainElem_int Try.underlying3 (by decide)) (keyOf_kl hk)
  rw [hm.has k hk] at hrun
  rw [hm.at_ k hk] at hv
  obtain ⟨c, rfl, hc, _⟩ := plainElem_int_inv Try.underlying3 hv
  have h2 : (lookP P k).getD 0 = c := (Lit.int.inj (DataW.lit.inj (congrArg Prod.fst hc))).2
  rw [h2]
  exact hrun
section
variable {w : World} {base g bm n : Nat} {ok : Nat → Prop} {room h m : Int} {v : Value} {L : List K3} {D : DataW Value}
theorem Cac.setM (H : Cac w base ok g bm room h m v L D n) (x : Int) : Cac (w.setCell ⟨g, 4, none⟩ (.int .i64 x)) base ok g bm room h x v L D n :=
  ⟨blk_put H.blk 4 _ rfl, Kd.R_step H.row (fun q hq _ => Below.heap_setCell _ _ _ q hq.2.1), H.map.setCell (a := ⟨g, 4, none⟩) H.ne _, H.okg, H.okm, H.geg, H.gem, H.ne⟩
theorem Cac.setH (H : Cac w base ok g bm room h m v L D n) (x : Int) : Cac (w.setCell ⟨g, 3, none⟩ (.int .i64 x)) base ok g bm room x m v L D n :=
  ⟨blk_put H.blk 3 _ rfl, Kd.R_step H.row (fun q hq _ => Below.heap_setCell _ _ _ q hq.2.1), H.map.setCell (a := ⟨g, 3, none⟩) H.ne _, H.okg, H.okm, H.geg, H.gem, H.ne⟩
end
theorem keys_getP {P : List Pr} (hn : (P.map Prod.fst).Nodup) {k : K3} {v : Int} (hl : lookP P k = some v) {i : Nat} (hi : (P.map Prod.fst)[i]? = some k) : (P.map Prod.fst).eraseIdx i ++ [k] = (delP P k ++ [(k, v)]).map Prod.fst := by
  rw [erase_nodup _ i k hn hi, ← map_del, List.map_append]
  rfl
set_option maxHeartbeats 4000000 in
set_option maxRecDepth 100000 in
theorem get_calls {w : World} {base g N : Nat} {ok : Nat → Prop} {room h m : Int} {P : List Pr} {k : K3} (H : CacP w base ok g room h m P N) (hk : Wk k) (hfresh : ∀ q, w.heap.size ≤ q → ok q) (hbase : base ≤ w.heap.size) :
    Calls Try.prog 19 #[.pointer (some ⟨g, 0, none⟩), kv k] w fun e w' => e = .returned (.tuple #[.int .i64 ((lookP P k).getD 0), .bool (lookP P k).isSome]) ∧ Kept ok w w' ∧ CacP w' base ok g room (if (lookP P k).isSome then wrap64 (h + 1) else h) (if (lookP P k).isSome then m else wrap64 (m + 1)) (getP P k) N := by
  obtain ⟨⟨bm, v, D, n, HC0, hM, hn⟩, hnd, hwf, hlen, hroom⟩ := H
  have HM := Aside0.mk hM
  have HND := Aside0.mk hnd
  have HWF := Aside0.mk hwf
  have HLE := Aside0.mk hlen
  have HRO := Aside0.mk hroom
  have HNN := Aside0.mk hn
  have HKW := Aside0.mk hk
  have HCC := Aside0.mk HC0
  have HFR0 := Aside0.mk hfresh
  have HBS0 := Aside0.mk hbase
  clear hM hnd hwf hlen hroom hn hk HC0 hfresh hbase
  obtain ⟨h1, hh1⟩ : ∃ z, wrap64 (h + 1) = z := ⟨_, rfl⟩
  obtain ⟨m1, hm1⟩ : ∃ z, wrap64 (m + 1) = z := ⟨_, rfl⟩
  have wh : IntKind.i64.wrap (h + 1) = h1 := by rw [i64_w]; exact hh1
  have wm : IntKind.i64.wrap (m + 1) = m1 := by rw [i64_w]; exact hm1
  obtain ⟨lk, hlk0⟩ : ∃ z, lookP P k = z := ⟨_, rfl⟩
  obtain ⟨P1, hP1⟩ : ∃ z, getP P k = z := ⟨_, rfl⟩
  rw [hh1, hm1, hlk0, hP1]
  have HP1 := Aside0.mk hP1
  have HLK := Aside0.mk hlk0
  clear hh1 hm1 hlk0 hP1
  go_enter Try.func19, Try.ntmps19
  go_upto_region 4 with (fail)
  have hb0 : Below w.heap.size w (w.alloc (.cells (kc k).toArray 35 (0, 0))) := below_alloc (Below.refl _ _) _
  have HC : Aside0 (Cac (w.alloc (.cells (kc k).toArray 35 (0, 0))) base (fun q => ok q ∧ q ≠ w.heap.size) g bm room h m v (P.map Prod.fst) D n) := ⟨(HCC.out.mono (fun q hq ho => ⟨ho, Nat.ne_of_lt hq⟩)).below hb0⟩
  have HK : Aside0 (BoxK (w.alloc (.cells (kc k).toArray 35 (0, 0))) w.heap.size k) := ⟨BoxK.new w k⟩
  have HKP : Aside0 (Below w.heap.size w (w.alloc (.cells (kc k).toArray 35 (0, 0)))) := ⟨hb0⟩
  have HSZ : Aside0 (w.heap.size + 1 ≤ (w.alloc (.cells (kc k).toArray 35 (0, 0))).heap.size) := ⟨by rw [World.size_alloc]; exact Nat.le_refl _⟩
  clear hb0
  generalize (w.alloc (Obj.cells #[.int .u64 k.f0, .int .i64 k.f1, .int .i64 k.f2] 35)) = W0 at HC HK HKP HSZ ⊢
  obtain ⟨⟨_, _, xc2, _, _⟩, _⟩ := HC.out.cells
  obtain ⟨xk0, xk1, xk2⟩ := HK.out.cells
  have kc2 := cell_regrown xc2
  have kk0 := cell_regrown xk0
  have kk1 := cell_regrown xk1
  have kk2 := cell_regrown xk2
  clear xc2 xk0 xk1 xk2
  have hlk : ∀ d os, (Instr.lookup 62 (.map (some bm)) (.agg #[.int .u64 k.f0, .int .i64 k.f1, .int .i64 k.f2]) true).run Try.prog (grow (redrawn W0 d) os) = .ok (.tuple #[.int .i64 (lk.getD 0), .bool lk.isSome]) (grow (redrawn W0 d) os) := fun d os => HLK.out ▸ look_run (HC.out.below (below_regrown W0 d os)).map HM.out HKW.out
  refine wp_region_quiet_below (by kernel_rfl) (by kernel_rfl) ?_
  repeat (go_big_quiet_step (fail))
  refine wpQuiet_nil ?_
  intro _ hw'
  obtain ⟨⟨d7, o7⟩, hw''⟩ := hw'
  subst hw''
  clear hlk kc2 kk0 kk1 kk2
  have HN := Aside0.mk (below_step HKP.out (below_regrown W0 d7 o7))
  have HCn := Aside0.mk (HC.out.below (below_regrown W0 d7 o7))
  have HKn := Aside0.mk (HK.out.below (below_regrown W0 d7 o7))
  have HSn := Aside0.mk (Nat.le_trans HSZ.out (below_regrown W0 d7 o7).size)
  clear HKP HC HK HSZ
  dsimp only at *
  generalize (grow (redrawn W0 d7) o7) = W1 at HN HCn HKn HSn ⊢
  obtain ⟨⟨xc0, xc1, xc2, xc3, xc4⟩, f1, f3, f4⟩ := HCn.out.cells
  cases lk with
  | none =>
    have hg : P1 = P := by
      have h1 := HP1.out
      unfold getP at h1
      rw [HLK.out] at h1
      exact h1.symm
    subst hg
    clear wh
    go_wp2
    go_ret2
    have HC2 := HCn.out.setM m1
    refine ⟨rfl, (Kept.of_below ok HN.out).trans (Kept.set HC2.okg.1), ⟨bm, v, D, n, HC2.mono (fun q _ ho => ho.1), HM.out, HNN.out⟩, HND.out, HWF.out, HLE.out, HRO.out⟩
  | some v0 =>
    clear wm
    obtain ⟨xk0, xk1, xk2⟩ := (HKn.out.kept (Kept.set (ok := fun q => q = g) (w := W1) (g := g) (j := 3) (u := .int .i64 h1) rfl) (by have := HCn.out.okg.2; exact fun e => this e.symm)).cells
    go_upto_region 9 with (fail)
    obtain ⟨i, hi, hfirst⟩ := look_at HLK.out
    have hP1 : P1 = delP P k ++ [(k, v0)] := by
      have h1 := HP1.out
      unfold getP at h1
      rw [HLK.out] at h1
      exact h1.symm
    have HKE := Aside0.mk (keys_getP (v := v0) HND.out HLK.out hi)
    have HC2 := Aside0.mk (HCn.out.setH h1)
    have HKS : Aside0 (Kept ok w (W1.setCell ⟨g, 3, none⟩ (.int .i64 h1))) := ⟨(Kept.of_below ok HN.out).trans (Kept.set HCn.out.okg.1)⟩
    have hsz : w.heap.size + 1 ≤ (W1.setCell ⟨g, 3, none⟩ (.int .i64 h1)).heap.size := by
      have := HSn.out
      simpa [World.setCell] using this
    have CU := Aside0.mk (used_calls HC2.out (fun q hq => ⟨HFR0.out q (by omega), by omega⟩) (by have := HBS0.out; omega) hi hfirst (by have h1 := HLE.out; have h2 := HRO.out; rw [List.length_map]; omega))
    have HPP := Aside0.mk hP1
    clear hP1 hsz hi hfirst
    go_wp2_with (go_at_call 29; (with_reducible refine CU.out.mono ?_); rintro e w3 ⟨rfl, hk3, v3, hc3⟩; have HK3 := Aside0.mk hk3; have HC3 := Aside0.mk hc3; clear hk3 hc3)
    go_ret2
    have hc := HC3.out
    rw [HKE.out, ← HPP.out] at hc
    refine ⟨rfl, HKS.out.trans (HK3.out.mono fun q hq => hq.1), ⟨bm, v3, D, n, hc.mono (fun q _ ho => ho.1), HM.out.same (fun q => by rw [← HP1.out]; exact look_getP P k q), HNN.out⟩, ?_, ?_, ?_, HRO.out⟩
    · rw [HPP.out]
      exact nodup_last HND.out k v0
    · rw [HPP.out]
      exact wf_snoc (wf_del HWF.out k) HKW.out (look_wf HWF.out HLK.out).2
    · have h1 := HLE.out
      have h2 := del_len HND.out HLK.out
      rw [HPP.out, List.length_append]
      simp
      omega
end Go.Proofs.Ytlpbfhbfaphicaa.C19
