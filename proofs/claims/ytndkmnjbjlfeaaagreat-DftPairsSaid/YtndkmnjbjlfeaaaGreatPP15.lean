/- Parts of this claim's texts, packed by wip/tools/prune.py: what the proof does not reach is left out. -/
import Derived.Test.YtndkmnjbjlfeaaaGreatPP14
import Derived.Lib.SmallJoins
section
namespace Go.Proofs.YtndkmnjbjlfeaaaGreat.F06
open Go Go.RowKit Go.Proofs.YtndkmnjbjlfeaaaGreatW.PrintWords Go.Proofs.YtndkmnjbjlfeaaaGreatW.PrintLast Go.Proofs.YtndkmnjbjlfeaaaGreatW.PrintMore Go.Proofs.YtndkmnjbjlfeaaaGreat.Given Go.Proofs.YtndkmnjbjlfeaaaGreat.M Go.Proofs.YtndkmnjbjlfeaaaGreat.Mont Go.Proofs.YtndkmnjbjlfeaaaGreat.XS Go.Proofs.YtndkmnjbjlfeaaaGreat.XT Go.Proofs.YtndkmnjbjlfeaaaGreat.XR Go.Proofs.YtndkmnjbjlfeaaaGreat.Opens
instance : Inhabited S146 := ⟨z146⟩
instance : Inhabited S134 := ⟨z134⟩
theorem opensPower : Opens Tryz.prog 146 k146 (fun x => (Lit.int .u64 x.f0).wf = true ∧ (Lit.int .i64 x.f1).wf = true) :=
  opens_iso (fun x : S146 => (x.f0, x.f1)) (fun a => ⟨a.1, a.2⟩) (fun _ => rfl)
    (opens_struct2 Tryz.underlying146 rfl rfl (by kernel_rfl) (by kernel_rfl) (opens_int Tryz.underlying22) (opens_int Tryz.underlying3))
theorem opensPowers : Opens Tryz.prog 132 (Kd.slice 146 k146) (fun l => (∀ x ∈ l, (Lit.int .u64 x.f0).wf = true ∧ (Lit.int .i64 x.f1).wf = true) ∧ l.length * Tryz.prog.bytesOf 146 ≤ reachBytes) :=
  opens_slice Tryz.underlying132 (by kernel_rfl) opensPower
theorem opensEntry : Opens Tryz.prog 134 k134 (fun x => (Lit.int .u64 x.f0).wf = true ∧ (Lit.int .u64 x.f1).wf = true ∧ ((∀ y ∈ x.f2, (Lit.int .u64 y.f0).wf = true ∧ (Lit.int .i64 y.f1).wf = true) ∧ x.f2.length * Tryz.prog.bytesOf 146 ≤ reachBytes)) :=
  opens_iso (fun x : S134 => (x.f0, x.f1, x.f2)) (fun a => ⟨a.1, a.2.1, a.2.2⟩) (fun _ => rfl)
    (opens_struct3 Tryz.underlying134 rfl rfl (by kernel_rfl) (by kernel_rfl) (by kernel_rfl) (opens_int Tryz.underlying22) (opens_int Tryz.underlying22) opensPowers)
def okArg (l : List S134) : Prop := (∀ x ∈ l, (Lit.int .u64 x.f0).wf = true ∧ (Lit.int .u64 x.f1).wf = true ∧ ((∀ y ∈ x.f2, (Lit.int .u64 y.f0).wf = true ∧ (Lit.int .i64 y.f1).wf = true) ∧ x.f2.length * Tryz.prog.bytesOf 146 ≤ reachBytes)) ∧ l.length * Tryz.prog.bytesOf 134 ≤ reachBytes
theorem opensEntries : Opens Tryz.prog 23 (Kd.slice 134 k134) okArg := opens_slice Tryz.underlying23 (by kernel_rfl) opensEntry
theorem okArg_row {l : List S134} (h : okArg l) : okRow l := by
  have b46 : Tryz.prog.bytesOf 134 = 40 := by kernel_rfl
  have b60 : Tryz.prog.bytesOf 146 = 16 := by kernel_rfl
  have hr : reachBytes = 140737488351232 := rfl
  unfold okArg at h
  rw [b46, b60, hr] at h
  refine ⟨⟨by omega, fun e he => by have := (h.1 e he).2.2.2; omega⟩, fun e he => ?_⟩
  obtain ⟨x, hx, rfl⟩ := List.mem_map.1 he
  obtain ⟨w0, w1, w2, _⟩ := h.1 x hx
  refine ⟨wf_U w0, wf_U w1, fun y hy => ?_⟩
  obtain ⟨z, hz, rfl⟩ := List.mem_map.1 hy
  exact ⟨wf_U (w2 z hz).1, wf_I (w2 z hz).2⟩
set_option maxRecDepth 100000 in
/-- A source: three numbers and a row. -/
theorem arg_source {H : Type} {enc : TypeId × Value → H} {w : World} {base b0 : Nat} {r : Reach} {held : Bool} {v : Value} {d : DataW H} {ps : List MemPlace}
    (hv : Value.okWide Tryz.prog w r b0 25 v) (hd : DataW.Trod enc Tryz.prog w base (fun _ => true) held 25 v d ps) (hw : (d.weights Tryz.prog 25).all (· ≤ reachBytes) = true) :
    ∃ (a b c : Int) (A : Option Addr) (cap : Nat) (l : List S134), v = .agg #[.int .i64 a, .int .i64 b, .int .u64 c, .slice A l.length cap] ∧ l.length ≤ cap ∧ Kd.C k134 w A l.length l ∧ okRow l ∧ (Lit.int .i64 a).wf = true ∧ (Lit.int .i64 b).wf = true ∧ (Lit.int .u64 c).wf = true := by
  obtain ⟨v0, v1, v2, v3, y0, y1, y2, y3, n, rfl, rfl, rfl, h0, h1, h2, h3⟩ := Joins.open_agg4 Tryz.underlying25 (by kernel_rfl) (by kernel_rfl) hv hd
  rw [DataW.weights, Tryz.underlying25] at hw
  have hw3 := each_weights (j := 3) hw rfl rfl
  obtain ⟨a, e0, _, w0⟩ := DataW.trod_int Tryz.underlying3 h0
  obtain ⟨b, e1, _, w1⟩ := DataW.trod_int Tryz.underlying3 h1
  obtain ⟨c, e2, _, w2⟩ := DataW.trod_int Tryz.underlying22 h2
  obtain ⟨l, ⟨A, cap, e3, hl, hc⟩, ho⟩ := opensEntries H enc w base n held _ _ h3 hw3
  simp only [List.cons.injEq, and_true] at e0 e1 e2 e3
  subst e0 e1 e2 e3
  exact ⟨a, b, c, A, cap, l, rfl, hl, hc, okArg_row ho, w0, w1, w2⟩
end Go.Proofs.YtndkmnjbjlfeaaaGreat.F06
end
section
namespace Go.Proofs.YtndkmnjbjlfeaaaGreat.F06.XG
open Go Go.RowKit Go.Proofs.YtndkmnjbjlfeaaaGreatW.PrintWords Go.Proofs.YtndkmnjbjlfeaaaGreatW.PrintLast Go.Proofs.YtndkmnjbjlfeaaaGreatW.PrintMore Go.Proofs.YtndkmnjbjlfeaaaGreat.Given Go.Proofs.YtndkmnjbjlfeaaaGreat.M Go.Proofs.YtndkmnjbjlfeaaaGreat.Mont Go.Proofs.YtndkmnjbjlfeaaaGreat.XS Go.Proofs.YtndkmnjbjlfeaaaGreat.XT Go.Proofs.YtndkmnjbjlfeaaaGreat.XR Go.Proofs.YtndkmnjbjlfeaaaGreat.Num Go.Proofs.YtndkmnjbjlfeaaaGreat.XK Go.Proofs.YtndkmnjbjlfeaaaGreat.T10 Go.Proofs.YtndkmnjbjlfeaaaGreat.D11 Go.Proofs.YtndkmnjbjlfeaaaGreat.XW Go.Proofs.YtndkmnjbjlfeaaaGreat.XG Go.Proofs.YtndkmnjbjlfeaaaGreat.Opens
set_option linter.unusedVariables false
theorem gen5 {g : Int} (h : Ev (fun k => epicycleref05_Generator.f k 5) g) : g = 2 :=
  Ev.unique h (Ev.of (g := fun k => epicycleref05_Generator.f k 5) (fun k => epicycleref05_Generator.mono 5 k) (k := 60) (by kernel_rfl))
theorem prime5 : Prime 5 := ⟨by decide, fun d hd => by
  have := Nat.le_of_dvd (by decide) hd
  have : ∀ d : Nat, d ≤ 5 → d ∣ 5 → d = 1 ∨ d = 5 := by decide
  exact this d (by omega) hd⟩
theorem small5 : ∃ F, Ev (fun k => field_Small.f k 5) ([F], 0) ∧ F.p = 5 ∧ F.g = 2 ∧ GoodFld F := by
  obtain ⟨F, h1, h2, h3, h4⟩ := small_odd (x := 5) ⟨by decide, by decide, prime5⟩
  exact ⟨F, h1, h3, gen5 h2, h4⟩
theorem alive_ev : Ev (fun k => epicyclelaw11_alive.f k) true := by
  obtain ⟨F, E, e1, e2, hg⟩ := small5
  have h : FitL F [1, 2, 3, 4] := ⟨by decide, by decide, by rw [e1]; rfl, fun x hx => by
    rw [e1]
    have : x = 1 ∨ x = 2 ∨ x = 3 ∨ x = 4 := by simpa using hx
    omega⟩
  have R := run_ev hg h false
  have e : runL F [1, 2, 3, 4] false = [0, 4, 3, 2] := by
    have hr : trootI F (([1, 2, 3, 4] : List Int).length : Int) false = 2 := by show rootI F 4 = 2; unfold rootI; rw [e1, e2]; rfl
    unfold runL
    rw [hr, e1]
    rfl
  rw [e] at R
  exact Ev.congr (fun k => rfl) (Ev.bind E (Ev.bind R (evP rfl (Ev.bind (same_ev (by decide)) (Ev.now _)))))
theorem fit_ev {L : List RE} (hL : okRow L) (a b c : Int) {l : List Int} (hu : ∀ x ∈ l, U x) : (∃ F p, Ev (fun k => epicyclelaw11_fit.f k a b c L l 64) (F, p, false)) ∨ ∃ F, Ev (fun k => epicyclelaw11_fit.f k a b c L l 64) ([F], F.p, true) ∧ GoodFld F ∧ FitL F l ∧ l.length ≤ 64 := by
  have J1 : ∀ F p, Ev (fun k => epicyclelaw11_fit.j0 k F p true) (F, p, false) := fun F p => stepE ⟨_, fun k => by simp only [epicyclelaw11_fit.j0]; rw [if_pos trivial], Ev.now _⟩
  have J0 : ∀ F p, Ev (fun k => epicyclelaw11_fit.j0 k F p false) (F, p, true) := fun F p => stepE ⟨_, fun k => by simp only [epicyclelaw11_fit.j0]; rw [if_neg Bool.false_ne_true], Ev.now _⟩
  rcases made_ev hL a b c with M | ⟨F, M, hg⟩
  · exact .inl ⟨_, _, Ev.congr (fun k => rfl) (Ev.bind M (evP rfl (J1 _ _)))⟩
  by_cases h1 : (l.length : Int) > 64
  · exact .inl ⟨_, _, Ev.congr (fun k => rfl) (Ev.bind M (evN hg.ne (evP h1 (J1 _ _))))⟩
  have C := rcheck_at (most := 64) hg.lo hg.hi (len_I (l := l) (by omega))
  by_cases h2 : chk F.p l.length 64 = 0
  · have G := rgood_ev (p := F.p) (l := l) (by omega)
    rw [h2] at C
    obtain ⟨c1, _, c3⟩ := chk_0 h2
    by_cases h3 : allB F.p l = true
    · rw [h3] at G
      refine .inr ⟨F, Ev.congr (fun k => rfl) (Ev.bind M (evN hg.ne (evN h1 (evB C (evP rfl (Ev.bind G (J0 _ _))))))), hg, ⟨by omega, by omega, c3, fun x hx => ⟨(hu x hx).1, of_decide_eq_true h3 x hx⟩⟩, by omega⟩
    · rw [Bool.eq_false_iff.2 h3] at G
      exact .inl ⟨_, _, Ev.congr (fun k => rfl) (Ev.bind M (evN hg.ne (evN h1 (evB C (evP rfl (Ev.bind G (J1 _ _)))))))⟩
  · exact .inl ⟨_, _, Ev.congr (fun k => rfl) (Ev.bind M (evN hg.ne (evN h1 (evB C (evN h2 (J1 _ _))))))⟩
theorem neg_at {n j : Nat} (hj : j < n) (hn : n ≤ 64) : Int.tmod (wrap64 ((n : Int) - (j : Int))) (n : Int) = (((n - j) % n : Nat) : Int) := by
  rw [w64_id _ (by omega) (by omega), tmod_pos (by omega), Int.natCast_emod]
  congr 1
  omega
theorem pairs_l0 {F : Fld} (hg : GoodFld F) {n : Nat} (h1 : 1 ≤ n) (hn : n ≤ 64) {a b x y : List Int} (la : a.length = n) (lb : b.length = n) (lx : x.length = n) (ly : y.length = n) (ua : ∀ t ∈ a, U t) (ub : ∀ t ∈ b, U t) (ux : ∀ t ∈ x, U t) (uy : ∀ t ∈ y, U t)
    (hp : sumN (fun i => rd x (i : Int) * rd y (((n - i) % n : Nat) : Int)) n % F.p = sumN (fun j => rd a (j : Int) * rd b (j : Int)) n % F.p * (n : Int) % F.p) (d : Nat) : ∀ j : Nat, j + d = n →
    Ev (fun q => epicyclelaw11_DftPairs.l0 q a b F.p (n : Int) x y (sumN (fun j => rd a (j : Int) * rd b (j : Int)) j % F.p) (sumN (fun i => rd x (i : Int) * rd y (((n - i) % n : Nat) : Int)) j % F.p) (a.length : Int) (j : Int)) true := by
  induction d with
  | zero =>
    intro j hj
    obtain rfl : j = n := by omega
    have wn : IntKind.u64.wrap (j : Int) = j := wu64_id _ (by omega) (by omega)
    have Mu := ref02_Mul_ev (hg.uE (sumN (fun j => rd a (j : Int) * rd b (j : Int)) j)) (b := (j : Int)) ⟨by omega, by omega⟩ hg.uP hg.ne
    refine stepE ⟨_, fun k => by simp only [epicyclelaw11_DftPairs.l0]; rw [if_neg (by omega), wn], Ev.bind Mu ?_⟩
    rw [← hp, beq_self_eq_true]
    exact Ev.now _
  | succ d ih =>
    intro j hj
    have hlt : j < n := by omega
    have p1 : (j : Int) < (a.length : Int) := by omega
    have p2 : (0 : Int) ≤ (j : Int) := Int.natCast_nonneg _
    have p3 : (j : Int) < (b.length : Int) := by omega
    have p4 : (j : Int) < (x.length : Int) := by omega
    have n0 : ¬ (n : Int) = 0 := by omega
    have ws : wrap64 ((j : Int) + 1) = ((j + 1 : Nat) : Int) := wrap_succ (by omega)
    have em := neg_at hlt hn
    have hm : (n - j) % n < n := Nat.mod_lt _ (by omega)
    have q0 : (0 : Int) ≤ (((n - j) % n : Nat) : Int) := Int.natCast_nonneg _
    have q1 : (((n - j) % n : Nat) : Int) < (y.length : Int) := by rw [ly]; exact Int.ofNat_lt.2 hm
    have M1 := ref02_Mul_ev (ua _ (rd_mem (l := a) (i := j) (by omega))) (ub _ (rd_mem (l := b) (i := j) (by omega))) hg.uP hg.ne
    have M2 := ref02_Mul_ev (ux _ (rd_mem (l := x) (i := j) (by omega))) (uy _ (rd_mem (l := y) (i := (n - j) % n) (by omega))) hg.uP hg.ne
    have A1 := ref02_Add_eq (hg.uE (sumN (fun j => rd a (j : Int) * rd b (j : Int)) j)) (hg.uE (rd a (j : Int) * rd b (j : Int))) hg.uP hg.ne
    have A2 := ref02_Add_eq (hg.uE (sumN (fun i => rd x (i : Int) * rd y (((n - i) % n : Nat) : Int)) j)) (hg.uE (rd x (j : Int) * rd y (((n - j) % n : Nat) : Int))) hg.uP hg.ne
    have e1 : (sumN (fun j => rd a (j : Int) * rd b (j : Int)) j % F.p + rd a (j : Int) * rd b (j : Int) % F.p) % F.p = sumN (fun j => rd a (j : Int) * rd b (j : Int)) (j + 1) % F.p := add_cong (Int.emod_emod _ _) (Int.emod_emod _ _)
    have e2 : (sumN (fun i => rd x (i : Int) * rd y (((n - i) % n : Nat) : Int)) j % F.p + rd x (j : Int) * rd y (((n - j) % n : Nat) : Int) % F.p) % F.p = sumN (fun i => rd x (i : Int) * rd y (((n - i) % n : Nat) : Int)) (j + 1) % F.p := add_cong (Int.emod_emod _ _) (Int.emod_emod _ _)
    rw [e1] at A1
    rw [e2] at A2
    have IH := ih (j + 1) (by omega)
    refine stepE ⟨_, fun k => by simp only [epicyclelaw11_DftPairs.l0]; rw [if_pos p1, if_pos p2, if_pos p1, if_pos p3, em, ws], ?_⟩
    exact Ev.bind M1 (evB A1 (evP p4 (evN n0 (evP q0 (evP q1 (Ev.bind M2 (evB A2 IH)))))))
theorem pairs_ev {L : List RE} (hL : okRow L) (a b c : Int) {l m : List Int} (hu : ∀ x ∈ l, U x) (hm : ∀ x ∈ m, U x) : Ev (fun q => epicyclelaw11_DftPairs.f q a b c L l m) true := by
  refine Ev.congr (fun k => rfl) (Ev.bind alive_ev (evP rfl ?_))
  have J : ∀ F p, Ev (fun q => epicyclelaw11_DftPairs.j0 q l m F p true) true := fun F p => stepE ⟨_, fun k => by simp only [epicyclelaw11_DftPairs.j0]; rw [if_pos trivial], Ev.now _⟩
  rcases fit_ev hL a b c hu with ⟨F, p, E⟩ | ⟨F, E, hg, h, h64⟩
  · exact Ev.bind E (evN Bool.false_ne_true (J _ _))
  refine Ev.bind E (evP rfl ?_)
  by_cases h1 : (m.length : Int) = (l.length : Int)
  · have hpos := h.pos
    have htop := h.top
    have G := rgood_ev (p := F.p) (l := m) (by omega)
    refine evP h1 (Ev.bind G ?_)
    by_cases h3 : allB F.p m = true
    · rw [h3]
      have hb : FitL F m := ⟨by omega, by omega, by rw [h1]; exact h.div, fun x hx => ⟨(hm x hx).1, of_decide_eq_true h3 x hx⟩⟩
      have l1 := runL_len F l false
      have l2 := runL_len F m false
      have R := roots hg h.pos h.div false
      have lm : m.length = l.length := by omega
      refine stepE ⟨_, fun k => by simp only [epicyclelaw11_DftPairs.j0]; rw [if_neg (show ¬ ((!true) = true) by decide)], ?_⟩
      refine Ev.bind (run_ev hg h false) (Ev.bind (run_ev hg hb false) (evP rfl (evP rfl (evP (by rw [l1]) ?_))))
      have e : (((runL F m false).length : Int) != (l.length : Int)) = false := by rw [l2, lm]; exact bne_self_eq_false _
      dsimp only
      rw [e]
      refine stepE ⟨_, fun k => by simp only [epicyclelaw11_DftPairs.j1]; rw [if_neg Bool.false_ne_true], ?_⟩
      have r1 : ∀ i, i < l.length → rd (runL F l false) (i : Int) = dftA (trootI F l.length false) (fun t => rd l (t : Int)) l.length i % F.p := fun i hi => by
        rw [runL_at hi, show cO F l.length false = 1 from rfl, Int.one_mul]
      have r2 : ∀ i, i < l.length → rd (runL F m false) (i : Int) = dftA (trootI F l.length false) (fun t => rd m (t : Int)) l.length i % F.p := fun i hi => by
        rw [runL_at (by omega), show cO F m.length false = 1 from rfl, Int.one_mul, lm]
      have P := pairs_l0 hg hpos h64 (a := l) (b := m) (x := runL F l false) (y := runL F m false) rfl lm l1 (by omega) hu hm ((runL_fit hg h false).u hg) ((runL_fit hg hb false).u hg) (by
        rw [emod_mul_l, Int.mul_comm, ← R.pairs (fun t => rd l (t : Int)) (fun t => rd m (t : Int))]
        refine sumN_mod fun i hi => ?_
        have hm' : (l.length - i) % l.length < l.length := Nat.mod_lt _ (by omega)
        rw [r1 i hi, r2 _ hm', emod_mul_l, emod_mul_r]) l.length 0 (by omega)
      rw [show sumN (fun j => rd l (j : Int) * rd m (j : Int)) 0 = 0 from rfl, show sumN (fun i => rd (runL F l false) (i : Int) * rd (runL F m false) (((l.length - i) % l.length : Nat) : Int)) 0 = 0 from rfl, Int.zero_emod] at P
      exact P
    · rw [Bool.eq_false_iff.2 h3]
      exact J _ _
  · exact evN h1 (J _ _)
theorem opensU64 : Opens Tryz.prog 26 (Kd.slice 22 (Kd.int .u64)) (fun l => (∀ x ∈ l, (Lit.int .u64 x).wf = true) ∧ l.length * Tryz.prog.bytesOf 22 ≤ reachBytes) :=
  opens_slice Tryz.underlying26 (by kernel_rfl) (opens_int Tryz.underlying22)
section
variable {a b c : Int} {A : Option Addr} {cap : Nat} {l : List RE} {x y : Int} {z : Bool} {W : World} {A1 : Option Addr} {c1 : Nat} {l1 : List Int} {A2 : Option Addr} {c2 : Nat} {l2 : List Int}
def Says (f : Nat) (a b c : Int) (A : Option Addr) (cap : Nat) (l : List RE) (more : List Value) (W : World) : Prop := Calls Tryz.prog f (.agg #[.int .i64 a, .int .i64 b, .int .u64 c, .slice A l.length cap] :: more).toArray W fun e w' => e = .returned (.bool true) ∧ Below W.heap.size W w'
def okU (l : List Int) : Prop := (∀ x ∈ l, (Lit.int .u64 x).wf = true) ∧ l.length * Tryz.prog.bytesOf 22 ≤ reachBytes
theorem okU.u {l : List Int} (h : okU l) : ∀ x ∈ l, U x := fun x hx => wf_U (h.1 x hx)
theorem pairs_walk (hc : l.length ≤ cap) (hr : Kd.C k134 W A l.length l) (ho : okRow l) (hc1 : l1.length ≤ c1) (hr1 : Kd.C (Kd.int .u64) W A1 l1.length l1) (ho1 : okU l1) (hc2 : l2.length ≤ c2) (hr2 : Kd.C (Kd.int .u64) W A2 l2.length l2) (ho2 : okU l2) : Says 9 a b c A cap l [.slice A1 l1.length c1, .slice A2 l2.length c2] W := by
  obtain ⟨k, hk⟩ := Ev.rounds (pairs_ev ho a b c ho1.u ho2.u)
  exact epicyclelaw11_DftPairs.calls k a b c A cap l A1 c1 l1 A2 c2 l2 W hr hc hr1 hc1 hr2 hc2 hk
end
end Go.Proofs.YtndkmnjbjlfeaaaGreat.F06.XG
end
