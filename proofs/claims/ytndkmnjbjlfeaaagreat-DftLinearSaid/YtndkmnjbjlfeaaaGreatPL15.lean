/- Parts of this claim's texts, packed by wip/tools/prune.py: what the proof does not reach is left out. -/
import Derived.Test.YtndkmnjbjlfeaaaGreatPL14
import Derived.Lib.SmallJoins
section
namespace Go.Proofs.YtndkmnjbjlfeaaaGreat.F06
open Go Go.RowKit Go.Proofs.YtndkmnjbjlfeaaaGreatW.PrintWords Go.Proofs.YtndkmnjbjlfeaaaGreatW.PrintLast Go.Proofs.YtndkmnjbjlfeaaaGreatW.PrintMore Go.Proofs.YtndkmnjbjlfeaaaGreat.Given Go.Proofs.YtndkmnjbjlfeaaaGreat.M Go.Proofs.YtndkmnjbjlfeaaaGreat.Mont Go.Proofs.YtndkmnjbjlfeaaaGreat.XS Go.Proofs.YtndkmnjbjlfeaaaGreat.XT Go.Proofs.YtndkmnjbjlfeaaaGreat.XR Go.Proofs.YtndkmnjbjlfeaaaGreat.Opens
instance : Inhabited S146 := ⟨z146⟩
instance : Inhabited S134 := ⟨z134⟩
theorem opensPower : Opens Tryz.prog 146 k146 (fun x => (Lit.int .u64 x.f0).wf = true ∧ (Lit.int .i64 x.f1).wf = true) :=
  opens_iso (fun x : S146 => (x.f0, x.f1)) (fun a => ⟨a.1, a.2⟩) (fun _ => rfl)
    (opens_struct2 Tryz.underlying146 rfl rfl (by kernel_rfl) (by kernel_rfl) (opens_int Tryz.underlying22) (opens_int Tryz.underlying3))
theorem opensPowers : Opens Tryz.prog 132 (Kd.slice 146 k146) (fun l => (∀ x ∈ l, (Lit.int .u64 x.f0).wf = true ∧ (Lit.int .i64 x.f1).wf = true) ∧ l.length * Tryz.prog.bytesOf 146 ≤ reachBytes) :=
  opens_slice Tryz.underlying132 (by kernel_rfl) opensPower
theorem opensEntry : Opens Tryz.prog 134 k134 (fun x => (Lit.int .u64 x.f0).wf = true ∧ (Lit.int .u64 x.f1).wf = true ∧ ((∀ y ∈ x.f2, (Lit.int .u64 y.f0).wf = true ∧ (Lit.int .i64 y.f1).wf = true) ∧ x.f2.length * Tryz.prog.bytesOf 146 ≤ reachBytes)) :=
  opens_iso (fun x : S134 => (x.f0, x.f1, x.f2)) (fun a => ⟨a.1, a.2.1, a.2.2⟩) (fun _ => rfl)
    (opens_struct3 Tryz.underlying134 rfl rfl (by kernel_rfl) (by kernel_rfl) (by kernel_rfl) (opens_int Tryz.underlying22) (opens_int Tryz.underlying22) opensPowers)
def okArg (l : List S134) : Prop := (∀ x ∈ l, (Lit.int .u64 x.f0).wf = true ∧ (Lit.int .u64 x.f1).wf = true ∧ ((∀ y ∈ x.f2, (Lit.int .u64 y.f0).wf = true ∧ (Lit.int .i64 y.f1).wf = true) ∧ x.f2.length * Tryz.prog.bytesOf 146 ≤ reachBytes)) ∧ l.length * Tryz.prog.bytesOf 134 ≤ reachBytes
theorem opensEntries : Opens Tryz.prog 23 (Kd.slice 134 k134) okArg := opens_slice Tryz.underlying23 (by kernel_rfl) opensEntry
theorem okArg_row {l : List S134} (h : okArg l) : okRow l := by
  have b46 : Tryz.prog.bytesOf 134 = 40 := by kernel_rfl
  have b60 : Tryz.prog.bytesOf 146 = 16 := by kernel_rfl
  have hr : reachBytes = 140737488351232 := rfl
  unfold okArg at h
  rw [b46, b60, hr] at h
  refine ⟨⟨by omega, fun e he => by have := (h.1 e he).2.2.2; omega⟩, fun e he => ?_⟩
  obtain ⟨x, hx, rfl⟩ := List.mem_map.1 he
  obtain ⟨w0, w1, w2, _⟩ := h.1 x hx
  refine ⟨wf_U w0, wf_U w1, fun y hy => ?_⟩
  obtain ⟨z, hz, rfl⟩ := List.mem_map.1 hy
  exact ⟨wf_U (w2 z hz).1, wf_I (w2 z hz).2⟩
set_option maxRecDepth 100000 in
/-- A source: three numbers and a row. -/
theorem arg_source {H : Type} {enc : TypeId × Value → H} {w : World} {base b0 : Nat} {r : Reach} {held : Bool} {v : Value} {d : DataW H} {ps : List MemPlace}
    (hv : Value.okWide Tryz.prog w r b0 25 v) (hd : DataW.Trod enc Tryz.prog w base (fun _ => true) held 25 v d ps) (hw : (d.weights Tryz.prog 25).all (· ≤ reachBytes) = true) :
    ∃ (a b c : Int) (A : Option Addr) (cap : Nat) (l : List S134), v = .agg #[.int .i64 a, .int .i64 b, .int .u64 c, .slice A l.length cap] ∧ l.length ≤ cap ∧ Kd.C k134 w A l.length l ∧ okRow l ∧ (Lit.int .i64 a).wf = true ∧ (Lit.int .i64 b).wf = true ∧ (Lit.int .u64 c).wf = true := by
  obtain ⟨v0, v1, v2, v3, y0, y1, y2, y3, n, rfl, rfl, rfl, h0, h1, h2, h3⟩ := Joins.open_agg4 Tryz.underlying25 (by kernel_rfl) (by kernel_rfl) hv hd
  rw [DataW.weights, Tryz.underlying25] at hw
  have hw3 := each_weights (j := 3) hw rfl rfl
  obtain ⟨a, e0, _, w0⟩ := DataW.trod_int Tryz.underlying3 h0
  obtain ⟨b, e1, _, w1⟩ := DataW.trod_int Tryz.underlying3 h1
  obtain ⟨c, e2, _, w2⟩ := DataW.trod_int Tryz.underlying22 h2
  obtain ⟨l, ⟨A, cap, e3, hl, hc⟩, ho⟩ := opensEntries H enc w base n held _ _ h3 hw3
  simp only [List.cons.injEq, and_true] at e0 e1 e2 e3
  subst e0 e1 e2 e3
  exact ⟨a, b, c, A, cap, l, rfl, hl, hc, okArg_row ho, w0, w1, w2⟩
end Go.Proofs.YtndkmnjbjlfeaaaGreat.F06
end
section
namespace Go.Proofs.YtndkmnjbjlfeaaaGreat.F06.XG
open Go Go.RowKit Go.Proofs.YtndkmnjbjlfeaaaGreatW.PrintWords Go.Proofs.YtndkmnjbjlfeaaaGreatW.PrintLast Go.Proofs.YtndkmnjbjlfeaaaGreatW.PrintMore Go.Proofs.YtndkmnjbjlfeaaaGreat.Given Go.Proofs.YtndkmnjbjlfeaaaGreat.M Go.Proofs.YtndkmnjbjlfeaaaGreat.Mont Go.Proofs.YtndkmnjbjlfeaaaGreat.XS Go.Proofs.YtndkmnjbjlfeaaaGreat.XT Go.Proofs.YtndkmnjbjlfeaaaGreat.XR Go.Proofs.YtndkmnjbjlfeaaaGreat.Num Go.Proofs.YtndkmnjbjlfeaaaGreat.XK Go.Proofs.YtndkmnjbjlfeaaaGreat.T10 Go.Proofs.YtndkmnjbjlfeaaaGreat.D11 Go.Proofs.YtndkmnjbjlfeaaaGreat.XW Go.Proofs.YtndkmnjbjlfeaaaGreat.XG Go.Proofs.YtndkmnjbjlfeaaaGreat.Opens
set_option linter.unusedVariables false
theorem gen5 {g : Int} (h : Ev (fun k => epicycleref05_Generator.f k 5) g) : g = 2 :=
  Ev.unique h (Ev.of (g := fun k => epicycleref05_Generator.f k 5) (fun k => epicycleref05_Generator.mono 5 k) (k := 60) (by kernel_rfl))
theorem prime5 : Prime 5 := ⟨by decide, fun d hd => by
  have := Nat.le_of_dvd (by decide) hd
  have : ∀ d : Nat, d ≤ 5 → d ∣ 5 → d = 1 ∨ d = 5 := by decide
  exact this d (by omega) hd⟩
theorem small5 : ∃ F, Ev (fun k => field_Small.f k 5) ([F], 0) ∧ F.p = 5 ∧ F.g = 2 ∧ GoodFld F := by
  obtain ⟨F, h1, h2, h3, h4⟩ := small_odd (x := 5) ⟨by decide, by decide, prime5⟩
  exact ⟨F, h1, h3, gen5 h2, h4⟩
theorem alive_ev : Ev (fun k => epicyclelaw11_alive.f k) true := by
  obtain ⟨F, E, e1, e2, hg⟩ := small5
  have h : FitL F [1, 2, 3, 4] := ⟨by decide, by decide, by rw [e1]; rfl, fun x hx => by
    rw [e1]
    have : x = 1 ∨ x = 2 ∨ x = 3 ∨ x = 4 := by simpa using hx
    omega⟩
  have R := run_ev hg h false
  have e : runL F [1, 2, 3, 4] false = [0, 4, 3, 2] := by
    have hr : trootI F (([1, 2, 3, 4] : List Int).length : Int) false = 2 := by show rootI F 4 = 2; unfold rootI; rw [e1, e2]; rfl
    unfold runL
    rw [hr, e1]
    rfl
  rw [e] at R
  exact Ev.congr (fun k => rfl) (Ev.bind E (Ev.bind R (evP rfl (Ev.bind (same_ev (by decide)) (Ev.now _)))))
theorem fit_ev {L : List RE} (hL : okRow L) (a b c : Int) {l : List Int} (hu : ∀ x ∈ l, U x) : (∃ F p, Ev (fun k => epicyclelaw11_fit.f k a b c L l 64) (F, p, false)) ∨ ∃ F, Ev (fun k => epicyclelaw11_fit.f k a b c L l 64) ([F], F.p, true) ∧ GoodFld F ∧ FitL F l ∧ l.length ≤ 64 := by
  have J1 : ∀ F p, Ev (fun k => epicyclelaw11_fit.j0 k F p true) (F, p, false) := fun F p => stepE ⟨_, fun k => by simp only [epicyclelaw11_fit.j0]; rw [if_pos trivial], Ev.now _⟩
  have J0 : ∀ F p, Ev (fun k => epicyclelaw11_fit.j0 k F p false) (F, p, true) := fun F p => stepE ⟨_, fun k => by simp only [epicyclelaw11_fit.j0]; rw [if_neg Bool.false_ne_true], Ev.now _⟩
  rcases made_ev hL a b c with M | ⟨F, M, hg⟩
  · exact .inl ⟨_, _, Ev.congr (fun k => rfl) (Ev.bind M (evP rfl (J1 _ _)))⟩
  by_cases h1 : (l.length : Int) > 64
  · exact .inl ⟨_, _, Ev.congr (fun k => rfl) (Ev.bind M (evN hg.ne (evP h1 (J1 _ _))))⟩
  have C := rcheck_at (most := 64) hg.lo hg.hi (len_I (l := l) (by omega))
  by_cases h2 : chk F.p l.length 64 = 0
  · have G := rgood_ev (p := F.p) (l := l) (by omega)
    rw [h2] at C
    obtain ⟨c1, _, c3⟩ := chk_0 h2
    by_cases h3 : allB F.p l = true
    · rw [h3] at G
      refine .inr ⟨F, Ev.congr (fun k => rfl) (Ev.bind M (evN hg.ne (evN h1 (evB C (evP rfl (Ev.bind G (J0 _ _))))))), hg, ⟨by omega, by omega, c3, fun x hx => ⟨(hu x hx).1, of_decide_eq_true h3 x hx⟩⟩, by omega⟩
    · rw [Bool.eq_false_iff.2 h3] at G
      exact .inl ⟨_, _, Ev.congr (fun k => rfl) (Ev.bind M (evN hg.ne (evN h1 (evB C (evP rfl (Ev.bind G (J1 _ _)))))))⟩
  · exact .inl ⟨_, _, Ev.congr (fun k => rfl) (Ev.bind M (evN hg.ne (evN h1 (evB C (evN h2 (J1 _ _))))))⟩
def linL (p k : Int) (a b : List Int) (n : Nat) : List Int := (List.range n).map fun j : Nat => (k * rd a (j : Int) % p + rd b (j : Int)) % p
theorem linL_len (p k : Int) (a b : List Int) (n : Nat) : (linL p k a b n).length = n := by unfold linL; rw [List.length_map, List.length_range]
theorem linL_succ (p k : Int) (a b : List Int) (n : Nat) : linL p k a b (n + 1) = linL p k a b n ++ [(k * rd a (n : Int) % p + rd b (n : Int)) % p] := by unfold linL; rw [List.range_succ, List.map_append]; rfl
theorem linear_l1 {F : Fld} (hg : GoodFld F) {k : Int} (uk : U k) {n : Nat} (hn : n ≤ 64) {x y z : List Int} (lx : x.length = n) (ly : y.length = n) (lz : z.length = n) (ux : ∀ t ∈ x, U t) (uy : ∀ t ∈ y, U t) (hz : ∀ i, i < n → rd z (i : Int) = (k * rd x (i : Int) % F.p + rd y (i : Int)) % F.p) (d : Nat) : ∀ i : Nat, i + d = n →
    Ev (fun q => epicyclelaw11_DftLinear.l1 q k F.p x y z (z.length : Int) (i : Int)) true := by
  induction d with
  | zero =>
    intro i hi
    exact stepE ⟨_, fun k => by simp only [epicyclelaw11_DftLinear.l1]; rw [if_neg (by omega)], Ev.now _⟩
  | succ d ih =>
    intro i hi
    have hr := hz i (by omega)
    have p1 : (i : Int) < (z.length : Int) := by omega
    have p2 : (0 : Int) ≤ (i : Int) := Int.natCast_nonneg _
    have p3 : (i : Int) < (x.length : Int) := by omega
    have p4 : (i : Int) < (y.length : Int) := by omega
    have ws : wrap64 ((i : Int) + 1) = ((i + 1 : Nat) : Int) := wrap_succ (by omega)
    have IH := ih (i + 1) (by omega)
    have vx := ux _ (rd_mem (l := x) (i := i) (by omega))
    have vy := uy _ (rd_mem (l := y) (i := i) (by omega))
    have Mu := ref02_Mul_ev uk vx hg.uP hg.ne
    have A := ref02_Add_eq (hg.uE (k * rd x (i : Int))) vy hg.uP hg.ne
    refine stepE ⟨_, fun k => by simp only [epicyclelaw11_DftLinear.l1]; rw [if_pos p1, if_pos p2, if_pos p1, if_pos p3, ws], ?_⟩
    exact Ev.bind Mu (evP p4 (evB A (evP hr IH)))
theorem linear_l0 {F : Fld} (hg : GoodFld F) {k : Int} (uk : U k) {a b : List Int} (ha : FitL F a) (hb : FitL F b) (hab : b.length = a.length) (hn : a.length ≤ 64) (inv : Bool) (d : Nat) : ∀ i : Nat, i + d = a.length →
    Ev (fun q => epicyclelaw11_DftLinear.l0 q a b k inv [F] F.p (linL F.p k a b i) (a.length : Int) (i : Int)) true := by
  have hlo := hg.lo
  induction d with
  | zero =>
    intro i hi
    obtain rfl : i = a.length := by omega
    have lz := linL_len F.p k a b a.length
    have hz : FitL F (linL F.p k a b a.length) := ⟨by rw [lz]; exact ha.pos, by rw [lz]; exact ha.top, by rw [lz]; exact ha.div, fun x hx => by
      unfold linL at hx
      obtain ⟨j, _, rfl⟩ := List.mem_map.1 hx
      exact ⟨Int.emod_nonneg _ hg.ne, Int.emod_lt_of_pos _ (by omega)⟩⟩
    have l1 := runL_len F a inv
    have l2 := runL_len F b inv
    have l3 := runL_len F (linL F.p k a b a.length) inv
    refine stepE ⟨_, fun k => by simp only [epicyclelaw11_DftLinear.l0]; rw [if_neg (by omega)], ?_⟩
    refine Ev.bind (run_ev hg ha inv) (Ev.bind (run_ev hg hb inv) (Ev.bind (run_ev hg hz inv) (evP rfl (evP rfl (evP rfl (evP (by rw [l1]) (evP (by rw [l2, hab]) ?_)))))))
    have e : (((runL F (linL F.p k a b a.length) inv).length : Int) != (a.length : Int)) = false := by rw [l3, lz]; exact bne_self_eq_false _
    dsimp only
    rw [e]
    refine stepE ⟨_, fun k => by simp only [epicyclelaw11_DftLinear.j2]; rw [if_neg Bool.false_ne_true], ?_⟩
    refine linear_l1 hg uk hn l1 (by omega) (by omega) ((runL_fit hg ha inv).u hg) ((runL_fit hg hb inv).u hg) (fun i hi => ?_) a.length 0 (by omega)
    rw [runL_at (by omega), runL_at hi, runL_at (by omega), lz, hab]
    have e1 : dftA (trootI F a.length inv) (fun t => rd (linL F.p k a b a.length) (t : Int)) a.length i % F.p = (k * dftA (trootI F a.length inv) (fun t => rd a (t : Int)) a.length i + dftA (trootI F a.length inv) (fun t => rd b (t : Int)) a.length i) % F.p := by
      rw [← dft_linear]
      refine dft_cong _ (fun j hj => ?_) i
      show rd (linL F.p k a b a.length) (j : Int) % F.p = _
      unfold linL
      rw [rd_map_range hj, Int.emod_emod]
      exact add_cong (Int.emod_emod _ _) rfl
    rw [← emod_mul_r, e1, emod_mul_r, Int.mul_add]
    refine (add_cong ?_ (Int.emod_emod _ _)).symm
    rw [Int.emod_emod, emod_mul_r, Int.mul_left_comm]
  | succ d ih =>
    intro i hi
    have hlt : i < a.length := by omega
    have lz := linL_len F.p k a b i
    have p1 : (i : Int) < (a.length : Int) := by omega
    have p2 : (0 : Int) ≤ (i : Int) := Int.natCast_nonneg _
    have p4 : (i : Int) < (b.length : Int) := by omega
    have p5 : (linL F.p k a b i).length < 17592186044416 := by omega
    have ws : wrap64 ((i : Int) + 1) = ((i + 1 : Nat) : Int) := wrap_succ (by omega)
    have IH := ih (i + 1) (by omega)
    rw [linL_succ] at IH
    have Mu := ref02_Mul_ev uk (ha.u hg _ (rd_mem (l := a) (i := i) (by omega))) hg.uP hg.ne
    have A := ref02_Add_eq (hg.uE (k * rd a (i : Int))) (hb.u hg _ (rd_mem (l := b) (i := i) (by omega))) hg.uP hg.ne
    refine stepE ⟨_, fun k => by simp only [epicyclelaw11_DftLinear.l0]; rw [if_pos p1, if_pos p2, if_pos p1, ws], ?_⟩
    exact Ev.bind Mu (evP p4 (evB A (evP p5 IH)))
theorem linear_ev {L : List RE} (hL : okRow L) (a b c : Int) {l m : List Int} (hu : ∀ x ∈ l, U x) (hm : ∀ x ∈ m, U x) {k : Int} (uk : U k) (inv : Bool) : Ev (fun q => epicyclelaw11_DftLinear.f q a b c L l m k inv) true := by
  refine Ev.congr (fun k => rfl) (Ev.bind alive_ev (evP rfl ?_))
  have J : ∀ F p, Ev (fun q => epicyclelaw11_DftLinear.j0 q l m k inv F p true) true := fun F p => stepE ⟨_, fun k => by simp only [epicyclelaw11_DftLinear.j0]; rw [if_pos trivial], Ev.now _⟩
  rcases fit_ev hL a b c hu with ⟨F, p, E⟩ | ⟨F, E, hg, h, h64⟩
  · exact Ev.bind E (evN Bool.false_ne_true (J _ _))
  refine Ev.bind E (evP rfl ?_)
  by_cases h1 : (m.length : Int) = (l.length : Int)
  · have G := rgood_ev (p := F.p) (l := m) (by omega)
    refine evP h1 (Ev.bind G ?_)
    by_cases h3 : allB F.p m = true
    · rw [h3]
      have hb : FitL F m := by
        have := h.pos
        have := h.top
        exact ⟨by omega, by omega, by rw [h1]; exact h.div, fun x hx => ⟨(hm x hx).1, of_decide_eq_true h3 x hx⟩⟩
      refine stepE ⟨_, fun k => by simp only [epicyclelaw11_DftLinear.j0]; rw [if_neg (show ¬ ((!true) = true) by decide)], ?_⟩
      exact linear_l0 hg uk h hb (by omega) h64 inv l.length 0 (by omega)
    · rw [Bool.eq_false_iff.2 h3]
      exact J _ _
  · exact evN h1 (J _ _)
theorem opensU64 : Opens Tryz.prog 26 (Kd.slice 22 (Kd.int .u64)) (fun l => (∀ x ∈ l, (Lit.int .u64 x).wf = true) ∧ l.length * Tryz.prog.bytesOf 22 ≤ reachBytes) :=
  opens_slice Tryz.underlying26 (by kernel_rfl) (opens_int Tryz.underlying22)
section
variable {a b c : Int} {A : Option Addr} {cap : Nat} {l : List RE} {x y : Int} {z : Bool} {W : World} {A1 : Option Addr} {c1 : Nat} {l1 : List Int} {A2 : Option Addr} {c2 : Nat} {l2 : List Int}
def Says (f : Nat) (a b c : Int) (A : Option Addr) (cap : Nat) (l : List RE) (more : List Value) (W : World) : Prop := Calls Tryz.prog f (.agg #[.int .i64 a, .int .i64 b, .int .u64 c, .slice A l.length cap] :: more).toArray W fun e w' => e = .returned (.bool true) ∧ Below W.heap.size W w'
def okU (l : List Int) : Prop := (∀ x ∈ l, (Lit.int .u64 x).wf = true) ∧ l.length * Tryz.prog.bytesOf 22 ≤ reachBytes
theorem okU.u {l : List Int} (h : okU l) : ∀ x ∈ l, U x := fun x hx => wf_U (h.1 x hx)
theorem linear_walk (hc : l.length ≤ cap) (hr : Kd.C k134 W A l.length l) (ho : okRow l) (hc1 : l1.length ≤ c1) (hr1 : Kd.C (Kd.int .u64) W A1 l1.length l1) (ho1 : okU l1) (hc2 : l2.length ≤ c2) (hr2 : Kd.C (Kd.int .u64) W A2 l2.length l2) (ho2 : okU l2) (hx : (Lit.int .u64 x).wf = true) : Says 6 a b c A cap l [.slice A1 l1.length c1, .slice A2 l2.length c2, .int .u64 x, .bool z] W := by
  obtain ⟨k, hk⟩ := Ev.rounds (linear_ev ho a b c ho1.u ho2.u (wf_U hx) z)
  exact epicyclelaw11_DftLinear.calls k a b c A cap l A1 c1 l1 A2 c2 l2 x z W hr hc hr1 hc1 hr2 hc2 hk
end
end Go.Proofs.YtndkmnjbjlfeaaaGreat.F06.XG
end
