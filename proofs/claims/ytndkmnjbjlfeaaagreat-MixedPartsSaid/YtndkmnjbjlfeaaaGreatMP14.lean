/- Parts of this claim's texts, packed by wip/tools/prune.py: what the proof does not reach is left out. -/
import Derived.Test.YtndkmnjbjlfeaaaGreatMP13
import Derived.Lib.SmallJoins
section
namespace Go.Proofs.YtndkmnjbjlfeaaaGreat.F06
open Go Go.RowKit Go.Proofs.YtndkmnjbjlfeaaaGreatW.PrintWords Go.Proofs.YtndkmnjbjlfeaaaGreatW.PrintLast Go.Proofs.YtndkmnjbjlfeaaaGreatW.PrintMore Go.Proofs.YtndkmnjbjlfeaaaGreat.Given Go.Proofs.YtndkmnjbjlfeaaaGreat.M Go.Proofs.YtndkmnjbjlfeaaaGreat.Mont Go.Proofs.YtndkmnjbjlfeaaaGreat.XS Go.Proofs.YtndkmnjbjlfeaaaGreat.XT Go.Proofs.YtndkmnjbjlfeaaaGreat.XR Go.Proofs.YtndkmnjbjlfeaaaGreat.Opens
instance : Inhabited S146 := ⟨z146⟩
instance : Inhabited S134 := ⟨z134⟩
theorem opensPower : Opens Tryz.prog 146 k146 (fun x => (Lit.int .u64 x.f0).wf = true ∧ (Lit.int .i64 x.f1).wf = true) :=
  opens_iso (fun x : S146 => (x.f0, x.f1)) (fun a => ⟨a.1, a.2⟩) (fun _ => rfl)
    (opens_struct2 Tryz.underlying146 rfl rfl (by kernel_rfl) (by kernel_rfl) (opens_int Tryz.underlying22) (opens_int Tryz.underlying3))
theorem opensPowers : Opens Tryz.prog 132 (Kd.slice 146 k146) (fun l => (∀ x ∈ l, (Lit.int .u64 x.f0).wf = true ∧ (Lit.int .i64 x.f1).wf = true) ∧ l.length * Tryz.prog.bytesOf 146 ≤ reachBytes) :=
  opens_slice Tryz.underlying132 (by kernel_rfl) opensPower
theorem opensEntry : Opens Tryz.prog 134 k134 (fun x => (Lit.int .u64 x.f0).wf = true ∧ (Lit.int .u64 x.f1).wf = true ∧ ((∀ y ∈ x.f2, (Lit.int .u64 y.f0).wf = true ∧ (Lit.int .i64 y.f1).wf = true) ∧ x.f2.length * Tryz.prog.bytesOf 146 ≤ reachBytes)) :=
  opens_iso (fun x : S134 => (x.f0, x.f1, x.f2)) (fun a => ⟨a.1, a.2.1, a.2.2⟩) (fun _ => rfl)
    (opens_struct3 Tryz.underlying134 rfl rfl (by kernel_rfl) (by kernel_rfl) (by kernel_rfl) (opens_int Tryz.underlying22) (opens_int Tryz.underlying22) opensPowers)
def okArg (l : List S134) : Prop := (∀ x ∈ l, (Lit.int .u64 x.f0).wf = true ∧ (Lit.int .u64 x.f1).wf = true ∧ ((∀ y ∈ x.f2, (Lit.int .u64 y.f0).wf = true ∧ (Lit.int .i64 y.f1).wf = true) ∧ x.f2.length * Tryz.prog.bytesOf 146 ≤ reachBytes)) ∧ l.length * Tryz.prog.bytesOf 134 ≤ reachBytes
theorem opensEntries : Opens Tryz.prog 23 (Kd.slice 134 k134) okArg := opens_slice Tryz.underlying23 (by kernel_rfl) opensEntry
theorem okArg_row {l : List S134} (h : okArg l) : okRow l := by
  have b46 : Tryz.prog.bytesOf 134 = 40 := by kernel_rfl
  have b60 : Tryz.prog.bytesOf 146 = 16 := by kernel_rfl
  have hr : reachBytes = 140737488351232 := rfl
  unfold okArg at h
  rw [b46, b60, hr] at h
  refine ⟨⟨by omega, fun e he => by have := (h.1 e he).2.2.2; omega⟩, fun e he => ?_⟩
  obtain ⟨x, hx, rfl⟩ := List.mem_map.1 he
  obtain ⟨w0, w1, w2, _⟩ := h.1 x hx
  refine ⟨wf_U w0, wf_U w1, fun y hy => ?_⟩
  obtain ⟨z, hz, rfl⟩ := List.mem_map.1 hy
  exact ⟨wf_U (w2 z hz).1, wf_I (w2 z hz).2⟩
set_option maxRecDepth 100000 in
/-- A source: three numbers and a row. -/
theorem arg_source {H : Type} {enc : TypeId × Value → H} {w : World} {base b0 : Nat} {r : Reach} {held : Bool} {v : Value} {d : DataW H} {ps : List MemPlace}
    (hv : Value.okWide Tryz.prog w r b0 25 v) (hd : DataW.Trod enc Tryz.prog w base (fun _ => true) held 25 v d ps) (hw : (d.weights Tryz.prog 25).all (· ≤ reachBytes) = true) :
    ∃ (a b c : Int) (A : Option Addr) (cap : Nat) (l : List S134), v = .agg #[.int .i64 a, .int .i64 b, .int .u64 c, .slice A l.length cap] ∧ l.length ≤ cap ∧ Kd.C k134 w A l.length l ∧ okRow l ∧ (Lit.int .i64 a).wf = true ∧ (Lit.int .i64 b).wf = true ∧ (Lit.int .u64 c).wf = true := by
  obtain ⟨v0, v1, v2, v3, y0, y1, y2, y3, n, rfl, rfl, rfl, h0, h1, h2, h3⟩ := Joins.open_agg4 Tryz.underlying25 (by kernel_rfl) (by kernel_rfl) hv hd
  rw [DataW.weights, Tryz.underlying25] at hw
  have hw3 := each_weights (j := 3) hw rfl rfl
  obtain ⟨a, e0, _, w0⟩ := DataW.trod_int Tryz.underlying3 h0
  obtain ⟨b, e1, _, w1⟩ := DataW.trod_int Tryz.underlying3 h1
  obtain ⟨c, e2, _, w2⟩ := DataW.trod_int Tryz.underlying22 h2
  obtain ⟨l, ⟨A, cap, e3, hl, hc⟩, ho⟩ := opensEntries H enc w base n held _ _ h3 hw3
  simp only [List.cons.injEq, and_true] at e0 e1 e2 e3
  subst e0 e1 e2 e3
  exact ⟨a, b, c, A, cap, l, rfl, hl, hc, okArg_row ho, w0, w1, w2⟩
end Go.Proofs.YtndkmnjbjlfeaaaGreat.F06
end
section
namespace Go.Proofs.YtndkmnjbjlfeaaaGreat.F06.XM
open Go Go.RowKit Go.Proofs.YtndkmnjbjlfeaaaGreatW.PrintWords Go.Proofs.YtndkmnjbjlfeaaaGreatW.PrintLast Go.Proofs.YtndkmnjbjlfeaaaGreatW.PrintMore Go.Proofs.YtndkmnjbjlfeaaaGreat.Given Go.Proofs.YtndkmnjbjlfeaaaGreat.M Go.Proofs.YtndkmnjbjlfeaaaGreat.Mont Go.Proofs.YtndkmnjbjlfeaaaGreat.XS Go.Proofs.YtndkmnjbjlfeaaaGreat.XT Go.Proofs.YtndkmnjbjlfeaaaGreat.XR Go.Proofs.YtndkmnjbjlfeaaaGreat.Num Go.Proofs.YtndkmnjbjlfeaaaGreat.XK Go.Proofs.YtndkmnjbjlfeaaaGreat.T10 Go.Proofs.YtndkmnjbjlfeaaaGreat.D11 Go.Proofs.YtndkmnjbjlfeaaaGreat.D14 Go.Proofs.YtndkmnjbjlfeaaaGreat.XW Go.Proofs.YtndkmnjbjlfeaaaGreat.XG Go.Proofs.YtndkmnjbjlfeaaaGreat.XM
set_option linter.unusedVariables false
theorem gen7 {g : Int} (h : Ev (fun k => epicycleref05_Generator.f k 7) g) : g = 3 :=
  Ev.unique h (Ev.of (g := fun k => epicycleref05_Generator.f k 7) (fun k => epicycleref05_Generator.mono 7 k) (k := 60) (by kernel_rfl))
theorem prime7 : Prime 7 := ⟨by decide, fun d hd => by
  have := Nat.le_of_dvd (by decide) hd
  have : ∀ d : Nat, d ≤ 7 → d ∣ 7 → d = 1 ∨ d = 7 := by decide
  exact this d (by omega) hd⟩
theorem small7 : ∃ F, Ev (fun k => field_Small.f k 7) ([F], 0) ∧ F.p = 7 ∧ F.g = 3 ∧ GoodFld F := by
  obtain ⟨F, h1, h2, h3, h4⟩ := small_odd (x := 7) ⟨by decide, by decide, prime7⟩
  exact ⟨F, h1, h3, gen7 h2, h4⟩
theorem alive_ev : Ev (fun k => epicyclelaw14_alive.f k) true := by
  obtain ⟨F, E, e1, e2, hg⟩ := small7
  have h : FitL F [1, 2, 4] := ⟨by decide, by decide, by rw [e1]; rfl, fun x hx => by
    rw [e1]
    have : x = 1 ∨ x = 2 ∨ x = 4 := by simpa using hx
    omega⟩
  have R3 : Ev (fun k => mixed_Radices.f k ((([1, 2, 4] : List Int).length : Nat) : Int)) (iL [3], true) := Ev.of (g := fun k => mixed_Radices.f k ((([1, 2, 4] : List Int).length : Nat) : Int)) (fun k => mixed_Radices.mono _ k) (k := 60) (by kernel_rfl)
  have R60 : Ev (fun k => mixed_Radices.f k 60) ([2, 2, 3, 5], true) := Ev.of (g := fun k => mixed_Radices.f k 60) (fun k => mixed_Radices.mono _ k) (k := 60) (by kernel_rfl)
  have R := mrun_ev hg h (rs := [3]) ⟨rfl, fun r hr => by
    have : r = 3 := by simpa using hr
    omega, by decide, by decide, by decide⟩ R3 false
  have e : runL F [1, 2, 4] false = [0, 0, 3] := by
    have hr : trootI F (([1, 2, 4] : List Int).length : Int) false = 2 := by show rootI F 3 = 2; unfold rootI; rw [e1, e2]; rfl
    unfold runL
    rw [hr, e1]
    rfl
  rw [e] at R
  exact Ev.congr (fun k => rfl) (Ev.bind E (Ev.bind R (Ev.bind R60 (evP rfl (Ev.bind (same_ev (by decide)) (evP rfl (evP rfl (evP rfl (evP (by decide) (Ev.now _))))))))))
theorem fault_ev {F : Fld} (hg : GoodFld F) {l : List Int} (hn : l.length ≤ 1000000) (hu : ∀ x ∈ l, U x) : ∃ v, Ev (fun k => epicycleref14_Fault.f k F.p l) v ∧ ((v = 0 ∧ FitL F l ∧ ∀ l' inv, FitL F l' → l'.length = l.length → Ev (fun k => mixed_Run.f k [F] l' inv) (runL F l' inv, 0)) ∨ (v ≠ 0 ∧ ∀ inv, Ev (fun k => mixed_Run.f k [F] l inv) ([], v))) := by
  have C := rcheck_at (most := 1024) hg.lo hg.hi (len_I hn)
  by_cases h1 : chk F.p l.length 1024 = 0
  · rw [h1] at C
    obtain ⟨c1, c2, c3⟩ := chk_0 h1
    obtain ⟨L, b, P, D, hb⟩ := rad_ev (l.length : Int)
    cases b with
    | false => exact ⟨11, Ev.congr (fun k => rfl) (evB C (evP rfl (Ev.bind D (evN Bool.false_ne_true (Ev.now _))))), .inr ⟨by decide, fun inv => mrun_kind hn inv h1 P⟩⟩
    | true =>
      obtain ⟨rs, m, em, rfl, hR⟩ := hb rfl
      obtain rfl : l.length = m := Int.ofNat_inj.1 em
      have G := rgood_ev (p := F.p) hn
      by_cases h3 : allB F.p l = true
      · rw [h3] at G
        have h : FitL F l := ⟨by omega, by omega, c3, fun x hx => ⟨(hu x hx).1, of_decide_eq_true h3 x hx⟩⟩
        exact ⟨0, Ev.congr (fun k => rfl) (evB C (evP rfl (Ev.bind D (evP rfl (Ev.bind G (evP rfl (Ev.now _))))))), .inl ⟨rfl, h, fun l' inv h' e => mrun_ev hg h' (by rw [e]; exact hR) (by rw [e]; exact P) inv⟩⟩
      · have h3' := Bool.eq_false_iff.2 h3
        rw [h3'] at G
        exact ⟨9, Ev.congr (fun k => rfl) (evB C (evP rfl (Ev.bind D (evP rfl (Ev.bind G (evN Bool.false_ne_true (Ev.now _))))))), .inr ⟨by decide, fun inv => mrun_bad hn inv h1 P h3'⟩⟩
  · exact ⟨_, Ev.congr (fun k => rfl) (evB C (evN h1 (Ev.now _))), .inr ⟨h1, fun inv => mrun_chk hn inv h1⟩⟩
end Go.Proofs.YtndkmnjbjlfeaaaGreat.F06.XM
end
section
namespace Go.Proofs.YtndkmnjbjlfeaaaGreat.F06.XM
open Go Go.RowKit Go.Proofs.YtndkmnjbjlfeaaaGreatW.PrintWords Go.Proofs.YtndkmnjbjlfeaaaGreatW.PrintLast Go.Proofs.YtndkmnjbjlfeaaaGreatW.PrintMore Go.Proofs.YtndkmnjbjlfeaaaGreat.Given Go.Proofs.YtndkmnjbjlfeaaaGreat.M Go.Proofs.YtndkmnjbjlfeaaaGreat.Mont Go.Proofs.YtndkmnjbjlfeaaaGreat.XS Go.Proofs.YtndkmnjbjlfeaaaGreat.XT Go.Proofs.YtndkmnjbjlfeaaaGreat.XR Go.Proofs.YtndkmnjbjlfeaaaGreat.Num Go.Proofs.YtndkmnjbjlfeaaaGreat.XK Go.Proofs.YtndkmnjbjlfeaaaGreat.T10 Go.Proofs.YtndkmnjbjlfeaaaGreat.D11 Go.Proofs.YtndkmnjbjlfeaaaGreat.D14 Go.Proofs.YtndkmnjbjlfeaaaGreat.XW Go.Proofs.YtndkmnjbjlfeaaaGreat.XG Go.Proofs.YtndkmnjbjlfeaaaGreat.XM Go.Proofs.YtndkmnjbjlfeaaaGreat.Opens
set_option linter.unusedVariables false
theorem root_part {F : Fld} (hg : GoodFld F) {n r : Nat} (hn : 1 ≤ n) (hr : 1 ≤ r) (hd : (F.p - 1) % ((r * n : Nat) : Int) = 0) : rootI F ((r * n : Nat) : Int) ^ r % F.p = rootI F (n : Int) := by
  obtain ⟨q, hq⟩ := Int.dvd_of_emod_eq_zero hd
  have hlo := hg.lo
  have hrn : 1 ≤ r * n := Nat.mul_pos hr hn
  have e1 : (F.p - 1) / ((r * n : Nat) : Int) = q := by
    rw [hq]
    exact Int.mul_ediv_cancel_left _ fun e => by
      have := Int.ofNat_inj.1 (e.trans (rfl : (0 : Int) = ((0 : Nat) : Int)))
      omega
  have e2 : (F.p - 1) / (n : Int) = (r : Int) * q := by
    rw [hq, Int.natCast_mul, Int.mul_comm (r : Int), Int.mul_assoc]
    exact Int.mul_ediv_cancel_left _ (by omega)
  have hq0 : 0 ≤ q := by rw [← e1]; exact Int.ediv_nonneg (by omega) (Int.natCast_nonneg _)
  rw [rootI_pow, e1]
  unfold rootI
  rw [e2]
  obtain ⟨q', rfl⟩ : ∃ x : Nat, q = x := ⟨q.toNat, by omega⟩
  rw [← Int.natCast_mul, Int.toNat_natCast, Int.toNat_natCast, Nat.mul_comm]
theorem wide_dft {F : Fld} (hg : GoodFld F) {l y : List Int} (h : FitL F l) (hy : FitL F y) {r : Nat} (hr : 1 ≤ r) (ly : y.length = r * l.length) (hv : ∀ x, x < r * l.length → rd y (x : Int) = if x % r = 0 then rd l ((x / r : Nat) : Int) else 0) {i : Nat} (hi : i < y.length) : rd (runL F y false) (i : Int) = rd (runL F l false) ((i % l.length : Nat) : Int) := by
  have hpos := h.pos
  have hm : i % l.length < l.length := Nat.mod_lt _ hpos
  have hdv := hy.div
  rw [ly] at hdv
  rw [runL_at hi, runL_at hm, ly]
  show 1 * dftA (rootI F ((r * l.length : Nat) : Int)) (fun t => rd y (t : Int)) (r * l.length) i % F.p = 1 * dftA (rootI F (l.length : Int)) (fun t => rd l (t : Int)) l.length (i % l.length) % F.p
  rw [Int.one_mul, Int.one_mul, dft_stage]
  have R := roots hg h.pos h.div false
  have z : ∀ q, q < r → q ≠ 0 → rootI F ((r * l.length : Nat) : Int) ^ (q * i) * dftA (rootI F ((r * l.length : Nat) : Int) ^ r) (fun t => rd y ((t * r + q : Nat) : Int)) l.length i % F.p = 0 := fun q hq h0 => by
    have e : dftA (rootI F ((r * l.length : Nat) : Int) ^ r) (fun t => rd y ((t * r + q : Nat) : Int)) l.length i = 0 := by
      refine (sumN_congr fun t ht => ?_).trans (sumN_zero l.length)
      show _ * rd y ((t * r + q : Nat) : Int) = 0
      have hx : t * r + q < r * l.length := prodN_at ht hq
      rw [hv _ hx, if_neg (by rw [Nat.mul_comm t, Nat.mul_add_mod, Nat.mod_eq_of_lt hq]; exact h0), Int.mul_zero]
    rw [e, Int.mul_zero, Int.zero_emod]
  rw [sumN_one (f := fun q => rootI F ((r * l.length : Nat) : Int) ^ (q * i) * dftA (rootI F ((r * l.length : Nat) : Int) ^ r) (fun t => rd y ((t * r + q : Nat) : Int)) l.length i) (k := 0) (by omega) z]
  show rootI F ((r * l.length : Nat) : Int) ^ (0 * i) * dftA (rootI F ((r * l.length : Nat) : Int) ^ r) (fun t => rd y ((t * r + 0 : Nat) : Int)) l.length i % F.p = _
  rw [Nat.zero_mul, Int.pow_zero, Int.one_mul]
  have e2 : dftA (rootI F ((r * l.length : Nat) : Int) ^ r) (fun t => rd y ((t * r + 0 : Nat) : Int)) l.length i % F.p = dftA (rootI F (l.length : Int)) (fun t => rd l (t : Int)) l.length i % F.p := by
    refine sumN_mod fun t ht => ?_
    have hx : t * r + 0 < r * l.length := prodN_at ht hr
    have et : rd y ((t * r + 0 : Nat) : Int) = rd l (t : Int) := by
      rw [hv _ hx, if_pos (by rw [Nat.add_zero]; exact Nat.mul_mod_left _ _), Nat.add_zero, Nat.mul_div_cancel _ hr]
    show _ * rd y ((t * r + 0 : Nat) : Int) % F.p = _ * rd l (t : Int) % F.p
    rw [et]
    refine mul_cong ?_ rfl
    refine pow_cong ?_ _
    rw [root_part hg h.pos hr hdv]
    exact (Int.emod_eq_of_lt (rootI_range hg _).1 (rootI_range hg _).2).symm
  rw [e2]
  exact dft_round hg.one ((R.w_ord _).2 (Nat.dvd_refl _)) _ _
theorem parts_l1 {n : Nat} (h1 : 1 ≤ n) {A B : List Int} (lA : A.length = n) (hB : B.length ≤ 1000000) (hv : ∀ i, i < B.length → rd B (i : Int) = rd A ((i % n : Nat) : Int)) (d : Nat) : ∀ i : Nat, i + d = B.length →
    Ev (fun k => epicyclelaw14_MixedParts.l1 k (n : Int) A B (B.length : Int) (i : Int)) true := by
  induction d with
  | zero =>
    intro i hi
    exact stepE ⟨_, fun k => by simp only [epicyclelaw14_MixedParts.l1]; rw [if_neg (by omega)], Ev.now _⟩
  | succ d ih =>
    intro i hi
    have p1 : (i : Int) < (B.length : Int) := by omega
    have p2 : (0 : Int) ≤ (i : Int) := Int.natCast_nonneg _
    have n0 : ¬ (n : Int) = 0 := by omega
    have ws : wrap64 ((i : Int) + 1) = ((i + 1 : Nat) : Int) := wrap_succ (by omega)
    have em : Int.tmod (i : Int) (n : Int) = ((i % n : Nat) : Int) := by rw [tmod_pos p2, Int.natCast_emod]
    have q0 : (0 : Int) ≤ ((i % n : Nat) : Int) := Int.natCast_nonneg _
    have q1 : ((i % n : Nat) : Int) < (A.length : Int) := by rw [lA]; exact Int.ofNat_lt.2 (Nat.mod_lt _ h1)
    have e := hv i (by omega)
    exact stepE ⟨_, fun k => by simp only [epicyclelaw14_MixedParts.l1]; rw [if_pos p1, if_pos p2, if_pos p1, if_neg n0, em, if_pos q0, if_pos q1, if_pos e, ws], ih (i + 1) (by omega)⟩
theorem parts_l0 {F : Fld} (hg : GoodFld F) {l : List Int} (h : FitL F l) (hn : l.length ≤ 240) (R : Ev (fun k => mixed_Run.f k [F] l false) (runL F l false, 0)) {r : Nat} (hr : 1 ≤ r) (hr7 : r ≤ 7) (d : Nat) : ∀ (j : Nat) (y : List Int), j + d = l.length → y.length = r * l.length → (∀ x, x < r * l.length → rd y (x : Int) = if x % r = 0 ∧ x / r < j then rd l ((x / r : Nat) : Int) else 0) →
    Ev (fun k => epicyclelaw14_MixedParts.l0 k l (r : Int) [F] F.p (l.length : Int) y l (l.length : Int) (j : Int)) true := by
  have hpos := h.pos
  have hrl : r * l.length ≤ 1680 := Nat.le_trans (Nat.mul_le_mul hr7 hn) (by decide)
  have hlo := hg.lo
  induction d with
  | zero =>
    intro j y hj hy hv
    obtain rfl : j = l.length := by rw [← hj]; rfl
    have resl : ∀ x, x < l.length → 0 ≤ rd l (x : Int) ∧ rd l (x : Int) < F.p := fun x hx => h.res _ (rd_mem hx)
    have hv' : ∀ x, x < r * l.length → rd y (x : Int) = if x % r = 0 then rd l ((x / r : Nat) : Int) else 0 := fun x hx => by
      rw [hv x hx]
      have hlt : x / r < l.length := Nat.div_lt_of_lt_mul hx
      by_cases c : x % r = 0
      · rw [if_pos ⟨c, hlt⟩, if_pos c]
      · rw [if_neg (fun e => c e.1), if_neg c]
    have uy : ∀ x ∈ y, U x := fun x hx => by
      obtain ⟨i, hi, rfl⟩ := List.mem_iff_getElem.1 hx
      have hi' : i < r * l.length := by rw [← hy]; exact hi
      rw [← rd_at hi, hv' i hi']
      split
      · exact h.u hg _ (rd_mem (Nat.div_lt_of_lt_mul hi'))
      · exact ⟨by decide, by decide⟩
    obtain ⟨v, V, ⟨rfl, hyf, R2⟩ | ⟨hv2, _⟩⟩ := fault_ev hg (l := y) (by rw [hy]; exact Nat.le_trans hrl (by decide)) uy
    · have q : ¬ ((l.length : Nat) : Int) < (l.length : Int) := Int.lt_irrefl _
      have wr : wrap64 ((r : Int) * (l.length : Int)) = ((r * l.length : Nat) : Int) := by rw [← Int.natCast_mul]; exact w64n (Nat.le_trans hrl (by decide))
      refine stepE ⟨_, fun k => by simp only [epicyclelaw14_MixedParts.l0]; rw [if_neg q, wr], ?_⟩
      refine Ev.bind V (evP rfl (Ev.bind R (Ev.bind (R2 y false hyf rfl) (evP rfl (evP rfl (evP (by rw [runL_len]) ?_))))))
      have e : (((runL F y false).length : Int) != ((r * l.length : Nat) : Int)) = false := by rw [runL_len, hy]; exact bne_self_eq_false _
      dsimp only
      rw [e]
      refine stepE ⟨_, fun k => by simp only [epicyclelaw14_MixedParts.j2]; rw [if_neg Bool.false_ne_true], ?_⟩
      refine parts_l1 hpos (runL_len F l false) (by rw [runL_len, hy]; exact Nat.le_trans hrl (by decide)) (fun i hi => ?_) (runL F y false).length 0 (Nat.zero_add _)
      exact wide_dft hg h hyf hr hy hv' (by rw [runL_len] at hi; exact hi)
    · have q : ¬ ((l.length : Nat) : Int) < (l.length : Int) := Int.lt_irrefl _
      exact stepE ⟨_, fun k => by simp only [epicyclelaw14_MixedParts.l0]; rw [if_neg q], Ev.bind V (evN hv2 (Ev.now _))⟩
  | succ d ih =>
    intro j y hj hy hv
    have hlt : j < l.length := by clear ih hv hrl hy; omega
    have p1 : (j : Int) < (l.length : Int) := Int.ofNat_lt.2 hlt
    have p2 : (0 : Int) ≤ (j : Int) := Int.natCast_nonneg _
    have ws : wrap64 ((j : Int) + 1) = ((j + 1 : Nat) : Int) := by clear ih hv hrl hy; exact wrap_succ (by omega)
    have hjr : j * r < r * l.length := by rw [Nat.mul_comm j]; exact Nat.mul_lt_mul_of_pos_left hlt hr
    have w1 : wrap64 ((j : Int) * (r : Int)) = ((j * r : Nat) : Int) := by rw [← Int.natCast_mul]; exact w64n (Nat.le_trans (Nat.le_of_lt hjr) (Nat.le_trans hrl (by decide)))
    have q0 : (0 : Int) ≤ ((j * r : Nat) : Int) := Int.natCast_nonneg _
    have q1 : ((j * r : Nat) : Int) < (y.length : Int) := by rw [hy]; exact Int.ofNat_lt.2 hjr
    refine stepE ⟨_, fun k => by simp only [epicyclelaw14_MixedParts.l0]; rw [if_pos p1, if_pos p2, if_pos p1, w1, if_pos q0, if_pos q1, ws, Int.toNat_natCast], ?_⟩
    refine ih (j + 1) (y.set (j * r) (rd l (j : Int))) (by rw [← hj, Nat.add_assoc, Nat.add_comm 1 d]) (by rw [List.length_set]; exact hy) (fun x hx => ?_)
    by_cases c : x = j * r
    · subst c
      rw [rd_set _ (by rw [hy]; exact hjr), Nat.mul_mod_left, Nat.mul_div_cancel _ hr, if_pos ⟨rfl, Nat.lt_succ_self j⟩]
    · rw [rd_set_ne _ (Ne.symm c), hv x hx]
      by_cases c2 : x % r = 0 ∧ x / r < j
      · rw [if_pos c2, if_pos ⟨c2.1, Nat.lt_succ_of_lt c2.2⟩]
      · rw [if_neg c2, if_neg fun c3 => c2 ⟨c3.1, Nat.lt_of_le_of_ne (Nat.le_of_lt_succ c3.2) fun e => c (by
          have := Nat.div_add_mod x r
          rw [c3.1, e, Nat.add_zero, Nat.mul_comm] at this
          exact this.symm)⟩]
theorem parts_ev {L : List RE} (hL : okRow L) (a b c : Int) {l : List Int} (hu : ∀ x ∈ l, U x) (r : Int) : Ev (fun k => epicyclelaw14_MixedParts.f k a b c L l r) true := by
  refine Ev.congr (fun k => rfl) (Ev.bind alive_ev (evP rfl ?_))
  have J : ∀ F p, Ev (fun k => epicyclelaw14_MixedParts.j0 k l r F p (l.length : Int) true) true := fun F p => stepE ⟨_, fun k => by simp only [epicyclelaw14_MixedParts.j0]; rw [if_pos trivial], Ev.now _⟩
  rcases made_ev hL a b c with M | ⟨F, M, hg⟩
  · exact Ev.bind M (evP rfl (J _ _))
  refine Ev.bind M (evN hg.ne ?_)
  by_cases h1 : r < 1
  · exact evP h1 (J _ _)
  refine evN h1 ?_
  by_cases h2 : r > 7
  · exact evP h2 (J _ _)
  refine evN h2 ?_
  by_cases h3 : (l.length : Int) > 240
  · exact evP h3 (J _ _)
  refine evN h3 ?_
  have hn : l.length ≤ 1000000 := by omega
  obtain ⟨v, V, ⟨rfl, h, R⟩ | ⟨hv, R⟩⟩ := fault_ev hg hn hu
  · refine Ev.bind V ?_
    obtain ⟨r, rfl⟩ : ∃ x : Nat, r = x := ⟨r.toNat, by omega⟩
    have hr1 : 1 ≤ r := by omega
    have hr7 : r ≤ 7 := by omega
    have hn2 : l.length ≤ 240 := by omega
    have hrl : r * l.length ≤ 1680 := Nat.le_trans (Nat.mul_le_mul hr7 hn2) (by decide)
    have wr : wrap64 ((r : Int) * (l.length : Int)) = ((r * l.length : Nat) : Int) := by rw [← Int.natCast_mul]; exact w64n (Nat.le_trans hrl (by decide))
    have q0 : (0 : Int) ≤ ((r * l.length : Nat) : Int) := Int.natCast_nonneg _
    have q1 : ((r * l.length : Nat) : Int).toNat ≤ 35184372088832 := by rw [Int.toNat_natCast]; exact Nat.le_trans hrl (by decide)
    refine stepE ⟨_, fun k => by simp only [epicyclelaw14_MixedParts.j0]; rw [if_neg (show ¬ ((0 : Int) != 0) = true by decide), wr, if_pos q0, if_pos q1, Int.toNat_natCast], ?_⟩
    refine parts_l0 hg h hn2 (R l false h rfl) hr1 hr7 l.length 0 (List.replicate (r * l.length) 0) (Nat.zero_add _) List.length_replicate (fun x hx => ?_)
    rw [rd_rep, if_neg fun e => absurd e.2 (Nat.not_lt_zero _)]
  · refine Ev.bind V ?_
    rw [bne_iff_ne.2 hv]
    exact J _ _
theorem opensU64 : Opens Tryz.prog 26 (Kd.slice 22 (Kd.int .u64)) (fun l => (∀ x ∈ l, (Lit.int .u64 x).wf = true) ∧ l.length * Tryz.prog.bytesOf 22 ≤ reachBytes) :=
  opens_slice Tryz.underlying26 (by kernel_rfl) (opens_int Tryz.underlying22)
section
variable {a b c : Int} {A : Option Addr} {cap : Nat} {l : List RE} {x : Int} {z : Bool} {W : World} {A1 : Option Addr} {c1 : Nat} {l1 : List Int}
def Says (f : Nat) (a b c : Int) (A : Option Addr) (cap : Nat) (l : List RE) (more : List Value) (W : World) : Prop := Calls Tryz.prog f (.agg #[.int .i64 a, .int .i64 b, .int .u64 c, .slice A l.length cap] :: more).toArray W fun e w' => e = .returned (.bool true) ∧ Below W.heap.size W w'
def okU (l : List Int) : Prop := (∀ x ∈ l, (Lit.int .u64 x).wf = true) ∧ l.length * Tryz.prog.bytesOf 22 ≤ reachBytes
theorem okU.u {l : List Int} (h : okU l) : ∀ x ∈ l, U x := fun x hx => wf_U (h.1 x hx)
theorem parts_walk (hc : l.length ≤ cap) (hr : Kd.C k134 W A l.length l) (ho : okRow l) (hc1 : l1.length ≤ c1) (hr1 : Kd.C (Kd.int .u64) W A1 l1.length l1) (ho1 : okU l1) (_hx : (Lit.int .i64 x).wf = true) : Says 12 a b c A cap l [.slice A1 l1.length c1, .int .i64 x] W := by
  obtain ⟨k, hk⟩ := Ev.rounds (parts_ev ho a b c ho1.u x)
  exact epicyclelaw14_MixedParts.calls k a b c A cap l A1 c1 l1 x W hr hc hr1 hc1 hk
end
end Go.Proofs.YtndkmnjbjlfeaaaGreat.F06.XM
end
