/- Parts of this claim's texts, packed by wip/tools/prune.py: what the proof does not reach is left out. -/
import Derived.Test.YthnpjjpdlihepaaPC14
import Derived.Lib.SmallJoins
section
namespace Go.Proofs.Ythnpjjpdlihepaa.F06
open Go Go.RowKit Go.Proofs.YthnpjjpdlihepaaW.PrintWords Go.Proofs.YthnpjjpdlihepaaW.PrintLast Go.Proofs.YthnpjjpdlihepaaW.PrintMore Go.Proofs.Ythnpjjpdlihepaa.Given Go.Proofs.Ythnpjjpdlihepaa.M Go.Proofs.Ythnpjjpdlihepaa.Mont Go.Proofs.Ythnpjjpdlihepaa.XS Go.Proofs.Ythnpjjpdlihepaa.XT Go.Proofs.Ythnpjjpdlihepaa.XR Go.Proofs.Ythnpjjpdlihepaa.Opens
instance : Inhabited S89 := ⟨z89⟩
instance : Inhabited S52 := ⟨z52⟩
theorem opensPower : Opens Try.prog 89 k89 (fun x => (Lit.int .u64 x.f0).wf = true ∧ (Lit.int .i64 x.f1).wf = true) :=
  opens_iso (fun x : S89 => (x.f0, x.f1)) (fun a => ⟨a.1, a.2⟩) (fun _ => rfl)
    (opens_struct2 Try.underlying89 rfl rfl (by kernel_rfl) (by kernel_rfl) (opens_int Try.underlying22) (opens_int Try.underlying3))
theorem opensPowers : Opens Try.prog 50 (Kd.slice 89 k89) (fun l => (∀ x ∈ l, (Lit.int .u64 x.f0).wf = true ∧ (Lit.int .i64 x.f1).wf = true) ∧ l.length * Try.prog.bytesOf 89 ≤ reachBytes) :=
  opens_slice Try.underlying50 (by kernel_rfl) opensPower
theorem opensEntry : Opens Try.prog 52 k52 (fun x => (Lit.int .u64 x.f0).wf = true ∧ (Lit.int .u64 x.f1).wf = true ∧ ((∀ y ∈ x.f2, (Lit.int .u64 y.f0).wf = true ∧ (Lit.int .i64 y.f1).wf = true) ∧ x.f2.length * Try.prog.bytesOf 89 ≤ reachBytes)) :=
  opens_iso (fun x : S52 => (x.f0, x.f1, x.f2)) (fun a => ⟨a.1, a.2.1, a.2.2⟩) (fun _ => rfl)
    (opens_struct3 Try.underlying52 rfl rfl (by kernel_rfl) (by kernel_rfl) (by kernel_rfl) (opens_int Try.underlying22) (opens_int Try.underlying22) opensPowers)
def okArg (l : List S52) : Prop := (∀ x ∈ l, (Lit.int .u64 x.f0).wf = true ∧ (Lit.int .u64 x.f1).wf = true ∧ ((∀ y ∈ x.f2, (Lit.int .u64 y.f0).wf = true ∧ (Lit.int .i64 y.f1).wf = true) ∧ x.f2.length * Try.prog.bytesOf 89 ≤ reachBytes)) ∧ l.length * Try.prog.bytesOf 52 ≤ reachBytes
theorem opensEntries : Opens Try.prog 23 (Kd.slice 52 k52) okArg := opens_slice Try.underlying23 (by kernel_rfl) opensEntry
theorem okArg_row {l : List S52} (h : okArg l) : okRow l := by
  have b46 : Try.prog.bytesOf 52 = 40 := by kernel_rfl
  have b60 : Try.prog.bytesOf 89 = 16 := by kernel_rfl
  have hr : reachBytes = 140737488351232 := rfl
  unfold okArg at h
  rw [b46, b60, hr] at h
  refine ⟨⟨by omega, fun e he => by have := (h.1 e he).2.2.2; omega⟩, fun e he => ?_⟩
  obtain ⟨x, hx, rfl⟩ := List.mem_map.1 he
  obtain ⟨w0, w1, w2, _⟩ := h.1 x hx
  refine ⟨wf_U w0, wf_U w1, fun y hy => ?_⟩
  obtain ⟨z, hz, rfl⟩ := List.mem_map.1 hy
  exact ⟨wf_U (w2 z hz).1, wf_I (w2 z hz).2⟩
set_option maxRecDepth 100000 in
/-- A source: three numbers and a row. -/
theorem arg_source {H : Type} {enc : TypeId × Value → H} {w : World} {base b0 : Nat} {r : Reach} {held : Bool} {v : Value} {d : DataW H} {ps : List MemPlace}
    (hv : Value.okWide Try.prog w r b0 25 v) (hd : DataW.Trod enc Try.prog w base (fun _ => true) held 25 v d ps) (hw : (d.weights Try.prog 25).all (· ≤ reachBytes) = true) :
    ∃ (a b c : Int) (A : Option Addr) (cap : Nat) (l : List S52), v = .agg #[.int .i64 a, .int .i64 b, .int .u64 c, .slice A l.length cap] ∧ l.length ≤ cap ∧ Kd.C k52 w A l.length l ∧ okRow l ∧ (Lit.int .i64 a).wf = true ∧ (Lit.int .i64 b).wf = true ∧ (Lit.int .u64 c).wf = true := by
  obtain ⟨v0, v1, v2, v3, y0, y1, y2, y3, n, rfl, rfl, rfl, h0, h1, h2, h3⟩ := Joins.open_agg4 Try.underlying25 (by kernel_rfl) (by kernel_rfl) hv hd
  rw [DataW.weights, Try.underlying25] at hw
  have hw3 := each_weights (j := 3) hw rfl rfl
  obtain ⟨a, e0, _, w0⟩ := DataW.trod_int Try.underlying3 h0
  obtain ⟨b, e1, _, w1⟩ := DataW.trod_int Try.underlying3 h1
  obtain ⟨c, e2, _, w2⟩ := DataW.trod_int Try.underlying22 h2
  obtain ⟨l, ⟨A, cap, e3, hl, hc⟩, ho⟩ := opensEntries H enc w base n held _ _ h3 hw3
  simp only [List.cons.injEq, and_true] at e0 e1 e2 e3
  subst e0 e1 e2 e3
  exact ⟨a, b, c, A, cap, l, rfl, hl, hc, okArg_row ho, w0, w1, w2⟩
end Go.Proofs.Ythnpjjpdlihepaa.F06
end
section
namespace Go.Proofs.Ythnpjjpdlihepaa.F06.XW
open Go Go.RowKit Go.Proofs.YthnpjjpdlihepaaW.PrintWords Go.Proofs.YthnpjjpdlihepaaW.PrintLast Go.Proofs.YthnpjjpdlihepaaW.PrintMore Go.Proofs.Ythnpjjpdlihepaa.Given Go.Proofs.Ythnpjjpdlihepaa.M Go.Proofs.Ythnpjjpdlihepaa.Mont Go.Proofs.Ythnpjjpdlihepaa.XS Go.Proofs.Ythnpjjpdlihepaa.XT Go.Proofs.Ythnpjjpdlihepaa.XR Go.Proofs.Ythnpjjpdlihepaa.Num Go.Proofs.Ythnpjjpdlihepaa.XK Go.Proofs.Ythnpjjpdlihepaa.T10 Go.Proofs.Ythnpjjpdlihepaa.XW Go.Proofs.Ythnpjjpdlihepaa.Opens
theorem powL_U {F : Fld} (hg : GoodFld F) (w : Int) (n : Nat) : ∀ x ∈ powL F.p w n, U x := fun x hx => by
  unfold powL at hx
  obtain ⟨i, _, rfl⟩ := List.mem_map.1 hx
  exact hg.uE _
theorem alive_ev : Ev (fun k => epicyclelaw10_alive.f k) true := by
  obtain ⟨F, E, e1, e2, hg⟩ := small17
  have hd : (F.p - 1) % 4 = 0 := by rw [e1]; rfl
  have hr : trootI F 4 false = 13 := by show rootI F 4 = 13; unfold rootI; rw [e1, e2]; rfl
  have T := table_ev hg (n := 4) (by decide) (by decide) hd false
  obtain ⟨b, V, hb⟩ := verify_ev hg (powL_U hg (trootI F 4 false) (4 : Int).toNat)
  have rg := trootI_range hg 4 false
  have hbt : b = true := hb.2 (powL_tab hg.lo (by decide) (by decide) rg.1 rg.2 fun k => troot_ord hg (by decide) hd false k)
  subst hbt
  have l4 : ((powL F.p (trootI F 4 false) (4 : Int).toNat).length : Int) = 4 := by rw [powL_len]; rfl
  have r1 : rd (powL F.p (trootI F 4 false) (4 : Int).toNat) 1 = 13 := by
    have := rd_powL (p := F.p) (w := trootI F 4 false) (n := (4 : Int).toNat) (i := 1) (by decide)
    rw [hr, e1] at this ⊢
    exact this
  have r3 : rd (powL F.p (trootI F 4 false) (4 : Int).toNat) 3 = 4 := by
    have := rd_powL (p := F.p) (w := trootI F 4 false) (n := (4 : Int).toNat) (i := 3) (by decide)
    rw [hr, e1] at this ⊢
    exact this
  exact Ev.congr (fun k => rfl) (Ev.bind E (Ev.bind T (evP rfl (evP l4 (evP (by rw [l4]; decide) (evP r1 (evP (by rw [l4]; decide) (evP r3 (Ev.bind V (Ev.now _))))))))))
theorem inv_pow {F : Fld} (hg : GoodFld F) {n : Int} (hn : 0 < n) (hd : (F.p - 1) % n = 0) {i : Nat} (hi : i < n.toNat) : trootI F n true ^ i % F.p = trootI F n false ^ ((n.toNat - i) % n.toNat) % F.p := by
  have hne := hg.root_ne hn hd
  have h1 := pow_inv_one hg (hg.inv hne).2.1 i
  by_cases c : i = 0
  · subst c
    rw [Nat.sub_zero, Nat.mod_self, Int.pow_zero, Int.pow_zero]
  · rw [Nat.mod_eq_of_lt (by omega)]
    have hw : rootI F n ^ i % F.p ≠ 0 := by
      intro e
      rw [← emod_mul_r, e, Int.mul_zero, Int.zero_emod] at h1
      omega
    refine hg.cancel (c := rootI F n ^ i) hw ?_
    show invF F.p (rootI F n) ^ i * rootI F n ^ i % F.p = rootI F n ^ (n.toNat - i) * rootI F n ^ i % F.p
    rw [h1, ← Int.pow_add, show n.toNat - i + i = n.toNat by omega]
    exact ((hg.root_ord hn hd _).2 (Nat.dvd_refl _)).symm
theorem cert_l0 {F : Fld} (hg : GoodFld F) {n at_ other : Int} (h1 : 1 ≤ n) (h3 : n ≤ 300) (hd : (F.p - 1) % n = 0) (uo : U other) (d : Nat) : ∀ i : Nat, i + d = n.toNat →
    Ev (fun k => epicyclelaw10_TwiddleCertified.l0 k n at_ other [F] F.p (powL F.p (trootI F n false) n.toNat) (powL F.p (trootI F n true) n.toNat) (n.toNat : Int) (i : Int)) true := by
  have lt := powL_len F.p (trootI F n false) n.toNat
  have lu := powL_len F.p (trootI F n true) n.toNat
  have en : n = (n.toNat : Int) := by omega
  induction d with
  | zero =>
    intro i hi
    have wn : IntKind.u64.wrap n = n := wu64_id _ (by omega) (by omega)
    have ua := U_wrap at_
    have hm0 := Int.emod_nonneg (IntKind.u64.wrap at_) (show n ≠ 0 by omega)
    have hm1 := Int.emod_lt_of_pos (IntKind.u64.wrap at_) (show 0 < n by omega)
    have wk : wrap64 (Int.tmod (IntKind.u64.wrap at_) (IntKind.u64.wrap n)) = IntKind.u64.wrap at_ % n := by rw [wn, tmod_pos ua.1]; exact w64_id _ (by omega) (by omega)
    generalize IntKind.u64.wrap at_ % n = m at *
    have hset : ∀ x ∈ (powL F.p (trootI F n false) n.toNat).set m.toNat other, U x := fun x hx => by
      rcases List.mem_or_eq_of_mem_set hx with h | h
      · exact powL_U hg _ _ x h
      · rw [h]; exact uo
    obtain ⟨x, V, hx⟩ := verify_ev hg hset
    obtain ⟨y, R, hy⟩ := right_ev hg.lo hg.uP hset
    have e : x = y := Bool.eq_iff_iff.2 (hx.trans hy.symm)
    subst e
    by_cases c : rd (powL F.p (trootI F n false) n.toNat) m = other
    · exact stepE ⟨_, fun k => by simp only [epicyclelaw10_TwiddleCertified.l0]; rw [if_neg (by omega), if_neg (by rw [wn]; omega), wk, if_pos hm0, if_pos (by omega), if_pos c], Ev.now _⟩
    · refine stepE ⟨_, fun k => by simp only [epicyclelaw10_TwiddleCertified.l0]; rw [if_neg (by omega), if_neg (by rw [wn]; omega), wk, if_pos hm0, if_pos (by omega), if_neg c, Option.bind_some], ?_⟩
      refine Ev.bind V (Ev.bind R ?_)
      rw [beq_self_eq_true]
      exact Ev.now _
  | succ d ih =>
    intro i hi
    have J : Ev (fun k => epicyclelaw10_TwiddleCertified.j3 k n at_ other [F] F.p (powL F.p (trootI F n false) n.toNat) (powL F.p (trootI F n true) n.toNat) (n.toNat : Int) (i : Int) false) true :=
      stepE ⟨_, fun k => by simp only [epicyclelaw10_TwiddleCertified.j3]; rw [if_neg (by decide), wrap_succ (by omega)], ih (i + 1) (by omega)⟩
    have hlt : i < n.toNat := by omega
    have r1 := rd_powL (p := F.p) (w := trootI F n false) hlt
    have r2 := rd_powL (p := F.p) (w := trootI F n true) hlt
    have Mu := field_Field_Mul.at_ (F := F) (l := []) ⟨hg.uE (trootI F n false ^ i), hg.uE (trootI F n true ^ i)⟩
    have e1 : trootI F n false ^ i % F.p * (trootI F n true ^ i % F.p) % F.p = 1 := by
      rw [emod_mul_l, emod_mul_r, Int.mul_comm]
      exact pow_inv_one hg (hg.inv (hg.root_ne (by omega) hd)).2.1 i
    rw [e1, ← r1, ← r2] at Mu
    have ei : Int.tmod (wrap64 (n - (i : Int))) n = (((n.toNat - i) % n.toNat : Nat) : Int) := by
      rw [w64_id _ (by omega) (by omega), tmod_pos (by omega), Int.natCast_emod, ← en]
      congr 1
      omega
    have hm : (n.toNat - i) % n.toNat < n.toNat := Nat.mod_lt _ (by omega)
    have hc1 : 0 ≤ Int.tmod (wrap64 (n - (i : Int))) n := by rw [ei]; exact Int.natCast_nonneg _
    have hc2 : Int.tmod (wrap64 (n - (i : Int))) n < ((powL F.p (trootI F n false) n.toNat).length : Int) := by rw [ei, lt]; omega
    refine stepE ⟨_, fun k => by simp only [epicyclelaw10_TwiddleCertified.l0]; rw [if_pos (by omega), if_pos (by omega), if_pos (by omega), if_pos (by omega)], ?_⟩
    refine evB Mu (evP rfl (evN (by omega) (evP hc1 (evP hc2 ?_))))
    have e2 : (rd (powL F.p (trootI F n true) n.toNat) (i : Int) != rd (powL F.p (trootI F n false) n.toNat) (Int.tmod (wrap64 (n - (i : Int))) n)) = false := by
      rw [bne_eq_false_iff_eq, ei, rd_powL hm, r2]
      exact inv_pow hg (by omega) hd hlt
    rw [e2]
    exact J
theorem certified_ev {L : List RE} (hL : okRow L) (a b c : Int) {n x y : Int} (hn : I64 n) (hy : U y) : Ev (fun k => epicyclelaw10_TwiddleCertified.f k a b c L n x y) true := by
  refine Ev.congr (fun k => rfl) (Ev.bind alive_ev (evP rfl ?_))
  rcases made_ev hL a b c with M | ⟨F, M, hg⟩
  · exact Ev.bind M (evP rfl (evP rfl (Ev.now _)))
  have J : Ev (fun k => epicyclelaw10_TwiddleCertified.j0 k n x y [F] F.p true) true :=
    stepE ⟨_, fun k => by simp only [epicyclelaw10_TwiddleCertified.j0]; rw [if_pos trivial], Ev.now _⟩
  refine Ev.bind M (evN hg.ne ?_)
  by_cases h1 : n < 1
  · exact evP h1 J
  refine evN h1 ?_
  by_cases h2 : n > 300
  · exact evP h2 J
  refine evN h2 ?_
  have D := Divides_at F hn.2
  by_cases hd : (F.p - 1) % n = 0
  · rw [decide_eq_true ⟨by omega, hd⟩] at D
    have tab : ∀ inv, ∃ b, Ev (fun k => twiddle_Verify.f k [F] (powL F.p (trootI F n inv) n.toNat)) b ∧ b = true := fun inv => by
      obtain ⟨b, V, hb⟩ := verify_ev hg (powL_U hg (trootI F n inv) n.toNat)
      have rg := trootI_range hg n inv
      exact ⟨b, V, hb.2 (powL_tab hg.lo (by omega) (by omega) rg.1 rg.2 fun k => troot_ord hg (by omega) hd inv k)⟩
    obtain ⟨_, V1, rfl⟩ := tab false
    obtain ⟨_, V2, rfl⟩ := tab true
    refine evB D (stepE ⟨_, fun k => by simp only [epicyclelaw10_TwiddleCertified.j0]; rw [if_neg (by decide)], ?_⟩)
    refine Ev.bind (table_ev hg (by omega) (by omega) hd false) (Ev.bind (table_ev hg (by omega) (by omega) hd true) (evP rfl (evP rfl (Ev.bind V1 (evP rfl (Ev.bind V2 ?_))))))
    refine stepE ⟨_, fun k => by simp only [epicyclelaw10_TwiddleCertified.j1]; rw [if_neg (by decide), powL_len], ?_⟩
    exact cert_l0 hg (by omega) (by omega) hd hy n.toNat 0 (by omega)
  · rw [decide_eq_false (fun h => hd h.2)] at D
    exact evB D J
section
variable {a b c : Int} {A : Option Addr} {cap : Nat} {l : List RE} {x y z : Int} {W : World} (hc : l.length ≤ cap) (hr : Kd.C k52 W A l.length l) (ho : okRow l)
def Says (f : Nat) (a b c : Int) (A : Option Addr) (cap : Nat) (l : List RE) (more : List Value) (W : World) : Prop := Calls Try.prog f (.agg #[.int .i64 a, .int .i64 b, .int .u64 c, .slice A l.length cap] :: more).toArray W fun e w' => e = .returned (.bool true) ∧ Below W.heap.size W w'
include hc hr ho
theorem certified_walk (hx : (Lit.int .i64 x).wf = true) (_hy : (Lit.int .i64 y).wf = true) (hz : (Lit.int .u64 z).wf = true) : Says 9 a b c A cap l [.int .i64 x, .int .i64 y, .int .u64 z] W := by
  obtain ⟨k, hk⟩ := Ev.rounds (certified_ev ho a b c (n := x) (x := y) (wf_I hx) (wf_U hz))
  exact epicyclelaw10_TwiddleCertified.calls k a b c A cap l x y z W hr hc hk
end
end Go.Proofs.Ythnpjjpdlihepaa.F06.XW
end
