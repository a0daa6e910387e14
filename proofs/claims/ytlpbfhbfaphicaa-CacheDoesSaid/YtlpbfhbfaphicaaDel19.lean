/- Layer 19 (cache): slices.Delete of one key, walked; append of one key, wherever it lies. -/
import Derived.Test.YtlpbfhbfaphicaaXA2
import Derived.Maps.OwnSet
import Derived.Maps.OwnOps
import Derived.WideKeyPair
import Derived.StillTailTactics
import Derived.Shelf.RegionOpenPlain
import Derived.Deep.RegionLaw
namespace Go.Proofs.Ytlpbfhbfaphicaa.C19
open Go Go.RowKit Go.Maps Go.Proofs.YtlpbfhbfaphicaaW.PrintWords Go.Proofs.YtlpbfhbfaphicaaW.PrintLast Go.Proofs.YtlpbfhbfaphicaaW.PrintMore Go.Proofs.Ytlpbfhbfaphicaa.XA

set_option linter.unusedVariables false
abbrev kk := k35
abbrev K3 := S35
abbrev kc (x : K3) : List Value := [.int .u64 x.f0, .int .i64 x.f1, .int .i64 x.f2]
abbrev kv (x : K3) : Value := .agg #[.int .u64 x.f0, .int .i64 x.f1, .int .i64 x.f2]
/-- One zero laid behind a row. -/
theorem clear1 (w : World) (ty : TypeId) (b o c : Nat) (hc : ∀ j, j < 3 → (w.cell? ⟨b, o + j, none⟩).isSome = true) (hf : ∀ j, j < 3 → w.frozen? ⟨b, o + j, none⟩ = false) :
    (Builtin.clear_ #[63] ty #[.slice (some ⟨b, o, none⟩) 1 c]).run Try.prog w = .ok (.tuple #[]) (w.setCells b o (kc z35)) := by
  have hv : ∀ w, (zeroValue 35).run Try.prog w = .ok (kv z35) w := by intro w; kernel_rfl
  have hzc : (Builtin.zeroCells (kv z35).cells 1).toList = kc z35 := by kernel_rfl
  have hst := run_storeCells_cells (P := Try.prog) b o (kc z35) 0 w (by simpa using hc) (by simpa using hf) (by intro v hv'; simp at hv'; rcases hv' with rfl | rfl | rfl <;> rfl)
  simp only [Nat.add_zero] at hst
  simp [Builtin.clear_, run_underlying Try.underlying63, hv, hzc, hst]
/-- What lies behind a row does not count. -/
theorem R_tail {α : Type} {d : Kd α} {e base g n c : Nat} {ok : Nat → Prop} {w : World} {xs : List α} (h : d.R e w base ok (.slice (some ⟨g, 0, none⟩) n c) xs) {o : Nat} (vs : List Value) (ho : n * d.sz ≤ o) (ho2 : o + vs.length ≤ c * d.sz) :
    d.R e (w.setCells g o vs) base ok (.slice (some ⟨g, 0, none⟩) n c) xs ∧ w.grownBy (w.setCells g o vs) (some g) := by
  obtain ⟨hn, hnc, _⟩ := Kd.R_reads' h
  obtain ⟨hok, inner, hown, hr⟩ := h
  rcases hown.2 with ⟨hv, _⟩ | ⟨g', cap', cur, hv, hb, hh, h2, hcm, hcs, htake⟩
  · cases hv
  injection hv with ha hn' hc
  injection ha with ha
  injection ha with hg
  subst hg; subst hc
  obtain ⟨cur', h3, h4, h5⟩ := setCells_row vs o w cur hh (by omega)
  obtain ⟨s1, s2, s3, s4⟩ := setCells_same g vs o w
  have hfar : ∀ k', k' ≠ g → (w.setCells g o vs).heap[k']? = w.heap[k']? := fun k' hk' => setCells_far vs _ k' hk'
  have hgo : some g = (Value.slice (some ⟨g, 0, none⟩) n c).ownBlock := by simp [Value.ownBlock]
  refine ⟨⟨hok, inner, ⟨hown.1, .inr ⟨g, c, cur', by rw [hn], hb, h3, h2, hcm, by rw [h4, hcs], ?_⟩⟩, hr.imp_ (fun p q hp => d.M_move (fun k' hk' => hfar k' (fun he => hk'.2 (by rw [← hgo, he]))) hp)⟩, ⟨s1, s2, s3, by rw [s4]; exact Nat.le_refl _, fun k' _ hk' => hfar k' (fun he => hk' (by rw [he]))⟩⟩
  have hl : xs.length * d.sz ≤ o := by rw [← hn]; exact ho
  have hcl : xs.length * d.sz ≤ cur.toList.length := by
    show xs.length * d.sz ≤ cur.toList.length
    rw [show cur.toList.length = cur.size from rfl, hcs]
    exact Nat.mul_le_mul_right _ h2
  rw [h5, List.append_assoc, List.take_append_of_le_length (by rw [List.length_take]; omega), List.take_take, Nat.min_eq_left hl]
  exact htake
/-- An operation that appends, by what its run is. -/
theorem step_run {P : Program} {ops : Array Oper} {o : Oper} {a : Act} {w w' : World} {K : Act → World → Prop} {Q : Exit → Act → World → Prop} {E : Prop} (hg : o.guard = none) (s x : Operand) (t : TypeId)
    (ho : o.op = .call { callee := .builtin .append, args := #[s, x], argTypes := #[t, t] }) {vs vx v : Value} (hs : a.eval s = vs) (hx : a.eval x = vx) (hr : ∀ ty, (Builtin.append_ #[t, t] ty #[vs, vx]).run P w = .ok v w') (hK : K (a.put o.dst v) w') :
    if Region.wanted o (yielded ops a.tmps) = true then Oper.wp P o a w K Q else E := by
  have hw : Region.wanted o (yielded ops a.tmps) = true := by simp [Region.wanted, hg]
  rw [if_pos hw]
  unfold Oper.wp execOp
  simp only [ho, resolve, invoke, builtin, Sem.run_bind, Sem.run_pure, Result.andThen_ok, List.map_toArray, List.map_cons, List.map_nil, hs, hx, hr]
  exact hK

theorem grown_some {a b : World} {g : Nat} (h : a.drew.grownBy b (some g)) : a.grownBy b (some g) := ⟨h.os, h.tape, h.output, h.size, fun i hi hne => h.block i hi hne⟩
set_option maxHeartbeats 4000000 in
set_option maxRecDepth 100000 in
theorem delete_calls {w : World} {base g c i : Nat} {ok : Nat → Prop} {L : List K3} (h : kk.R 35 w base ok (.slice (some ⟨g, 0, none⟩) L.length c) L) (hi : i < L.length) :
    Calls Try.prog 30 #[.slice (some ⟨g, 0, none⟩) L.length c, .int .i64 (i : Int), .int .i64 ((i : Int) + 1)] w fun e w' =>
      e = .returned (.slice (some ⟨g, 0, none⟩) (L.length - 1) c) ∧ kk.R 35 w' base ok (.slice (some ⟨g, 0, none⟩) (L.length - 1) c) (L.eraseIdx i) ∧ w.grownBy w' (some g) := by
  obtain ⟨_, hnc, _⟩ := Kd.R_reads' h
  have hcm : c ≤ 9223372036854775807 := by
    obtain ⟨_, inner, hown, _⟩ := h
    rcases hown.2 with ⟨hv, _⟩ | ⟨g', cap', cur, hv, hb, hh, h2, hcm, hcs, htake⟩
    · cases hv
    injection hv with ha hn' hc
    subst hc
    exact hcm
  have hd : kk.R 35 w.drew base ok (.slice (some ⟨g, 0, none⟩) L.length c) L := h
  obtain ⟨i0, hi0, hsz⟩ : ∃ i0, Try.prog.info? 35 = some i0 ∧ i0.size = 3 := by
    have h1 : (Try.prog.info? 35).map (·.size) = some 3 := by kernel_rfl
    exact Option.map_eq_some_iff.1 h1
  obtain ⟨A, hA⟩ : ∃ A, (if c = i + 1 then some ⟨g, 0, none⟩ else (some (⟨g, 0, none⟩ : Addr)).map (·.add ((i + 1) * 3))) = A := ⟨_, rfl⟩
  obtain ⟨W1, HW1⟩ : ∃ W1, ∀ ty, (Builtin.append_ #[63, 63] ty #[.slice (some ⟨g, 0, none⟩) i c, .slice A (L.length - (i + 1)) (c - (i + 1))]).run Try.prog w.drew = .ok (.slice (some ⟨g, 0, none⟩) (L.length - 1) c) W1 ∧ kk.R 35 W1 base ok (.slice (some ⟨g, 0, none⟩) (L.length - 1) c) (L.eraseIdx i) ∧ w.drew.grownBy W1 (some g) := by
    obtain ⟨w1, hr, h1, h2⟩ := Kd.R_delete_run (P := Try.prog) kk base 63 63 35 i0 Try.underlying63 hi0 hsz hd hi hA.symm (c - (i + 1))
    exact ⟨w1, fun ty => ⟨hr, h1, h2⟩⟩
  have hrun := fun ty => (HW1 ty).1
  obtain ⟨hR1, hg1⟩ := (HW1 0).2
  have hlen : (L.eraseIdx i).length = L.length - 1 := by rw [List.length_eraseIdx_of_lt hi]
  obtain ⟨hR2, hg2⟩ := R_tail (o := (L.length - 1) * 3) hR1 (kc z35) (Nat.le_refl _) (by show (L.length - 1) * 3 + 3 ≤ c * 3; omega)
  have hcl : ∀ ty c', (Builtin.clear_ #[63] ty #[.slice (some ⟨g, (L.length - 1) * 3, none⟩) 1 c']).run Try.prog W1 = .ok (.tuple #[]) (W1.setCells g ((L.length - 1) * 3) (kc z35)) := by
    intro ty c'
    obtain ⟨_, inner, hown, _⟩ := hR1
    rcases hown.2 with ⟨hv, _⟩ | ⟨g', cap', cur, hv, hb, hh, h2, hcm, hcs, htake⟩
    · cases hv
    injection hv with ha hn' hc
    injection ha with ha
    injection ha with hg
    subst hg; subst hc
    have hcs' : cur.size = c * 3 := hcs
    refine clear1 W1 ty g _ c' (fun j hj => ?_) (fun j hj => blk_frozen hh _)
    rw [cell_of_row W1 g _ cur _ (0, 0) hh]
    simp
    omega
  have HE := Aside0.mk hR2
  have HG := Aside0.mk hg2
  have HG1 := Aside0.mk hg1
  have hLc : i < c := by omega
  have hL1 : L.length - (L.length - 1) = 1 := by omega
  have hne : ¬ (i : Int) = (i : Int) + 1 := by omega
  have mixed : Try.prog.follows .mixedOrders = true := by kernel_rfl
  have hic : i ≤ c := by omega
  have hjc : i + 1 ≤ c := by omega
  have hb1 : (0 : Int) ≤ (i : Int) + 1 := by omega
  have hb2 : (i : Int) + 1 ≤ (L.length : Int) := by omega
  have hA' : (if c = i + 1 then some (⟨g, 0, none⟩ : Addr) else some ⟨g, (i + 1) * 3, none⟩) = A := by
    rw [← hA]
    simp [Addr.add]
  clear hA
  clear hd hsz hi0 hR1 hg1 hR2 hg2 HW1 h hlen
  go_enter Try.func30, Try.ntmps30
  go_wp2_with fail
  go_region_law_o (refine step_run rfl (.tmp 22) (.tmp 25) 63 rfl (vs := .slice (some ⟨g, 0, none⟩) i c) (vx := .slice A (L.length - (i + 1)) (c - (i + 1))) (by simp [Act.eval, Act.put]) (by simp [Act.eval, Act.put]) hrun ?_)
  go_wp2
  go_ret
  exact ⟨rfl, HE.out, grown_some (HG1.out.trans HG.out)⟩
end Go.Proofs.Ytlpbfhbfaphicaa.C19
