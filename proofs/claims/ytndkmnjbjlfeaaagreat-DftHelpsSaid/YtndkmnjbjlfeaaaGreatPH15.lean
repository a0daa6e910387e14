/- Parts of this claim's texts, packed by wip/tools/prune.py: what the proof does not reach is left out. -/
import Derived.Test.YtndkmnjbjlfeaaaGreatPH14
import Derived.Lib.SmallJoins
section
namespace Go.Proofs.YtndkmnjbjlfeaaaGreat.F06
open Go Go.RowKit Go.Proofs.YtndkmnjbjlfeaaaGreatW.PrintWords Go.Proofs.YtndkmnjbjlfeaaaGreatW.PrintLast Go.Proofs.YtndkmnjbjlfeaaaGreatW.PrintMore Go.Proofs.YtndkmnjbjlfeaaaGreat.Given Go.Proofs.YtndkmnjbjlfeaaaGreat.M Go.Proofs.YtndkmnjbjlfeaaaGreat.Mont Go.Proofs.YtndkmnjbjlfeaaaGreat.XS Go.Proofs.YtndkmnjbjlfeaaaGreat.XT Go.Proofs.YtndkmnjbjlfeaaaGreat.XR Go.Proofs.YtndkmnjbjlfeaaaGreat.Opens
instance : Inhabited S146 := ⟨z146⟩
instance : Inhabited S134 := ⟨z134⟩
theorem opensPower : Opens Tryz.prog 146 k146 (fun x => (Lit.int .u64 x.f0).wf = true ∧ (Lit.int .i64 x.f1).wf = true) :=
  opens_iso (fun x : S146 => (x.f0, x.f1)) (fun a => ⟨a.1, a.2⟩) (fun _ => rfl)
    (opens_struct2 Tryz.underlying146 rfl rfl (by kernel_rfl) (by kernel_rfl) (opens_int Tryz.underlying22) (opens_int Tryz.underlying3))
theorem opensPowers : Opens Tryz.prog 132 (Kd.slice 146 k146) (fun l => (∀ x ∈ l, (Lit.int .u64 x.f0).wf = true ∧ (Lit.int .i64 x.f1).wf = true) ∧ l.length * Tryz.prog.bytesOf 146 ≤ reachBytes) :=
  opens_slice Tryz.underlying132 (by kernel_rfl) opensPower
theorem opensEntry : Opens Tryz.prog 134 k134 (fun x => (Lit.int .u64 x.f0).wf = true ∧ (Lit.int .u64 x.f1).wf = true ∧ ((∀ y ∈ x.f2, (Lit.int .u64 y.f0).wf = true ∧ (Lit.int .i64 y.f1).wf = true) ∧ x.f2.length * Tryz.prog.bytesOf 146 ≤ reachBytes)) :=
  opens_iso (fun x : S134 => (x.f0, x.f1, x.f2)) (fun a => ⟨a.1, a.2.1, a.2.2⟩) (fun _ => rfl)
    (opens_struct3 Tryz.underlying134 rfl rfl (by kernel_rfl) (by kernel_rfl) (by kernel_rfl) (opens_int Tryz.underlying22) (opens_int Tryz.underlying22) opensPowers)
def okArg (l : List S134) : Prop := (∀ x ∈ l, (Lit.int .u64 x.f0).wf = true ∧ (Lit.int .u64 x.f1).wf = true ∧ ((∀ y ∈ x.f2, (Lit.int .u64 y.f0).wf = true ∧ (Lit.int .i64 y.f1).wf = true) ∧ x.f2.length * Tryz.prog.bytesOf 146 ≤ reachBytes)) ∧ l.length * Tryz.prog.bytesOf 134 ≤ reachBytes
theorem opensEntries : Opens Tryz.prog 23 (Kd.slice 134 k134) okArg := opens_slice Tryz.underlying23 (by kernel_rfl) opensEntry
theorem okArg_row {l : List S134} (h : okArg l) : okRow l := by
  have b46 : Tryz.prog.bytesOf 134 = 40 := by kernel_rfl
  have b60 : Tryz.prog.bytesOf 146 = 16 := by kernel_rfl
  have hr : reachBytes = 140737488351232 := rfl
  unfold okArg at h
  rw [b46, b60, hr] at h
  refine ⟨⟨by omega, fun e he => by have := (h.1 e he).2.2.2; omega⟩, fun e he => ?_⟩
  obtain ⟨x, hx, rfl⟩ := List.mem_map.1 he
  obtain ⟨w0, w1, w2, _⟩ := h.1 x hx
  refine ⟨wf_U w0, wf_U w1, fun y hy => ?_⟩
  obtain ⟨z, hz, rfl⟩ := List.mem_map.1 hy
  exact ⟨wf_U (w2 z hz).1, wf_I (w2 z hz).2⟩
set_option maxRecDepth 100000 in
/-- A source: three numbers and a row. -/
theorem arg_source {H : Type} {enc : TypeId × Value → H} {w : World} {base b0 : Nat} {r : Reach} {held : Bool} {v : Value} {d : DataW H} {ps : List MemPlace}
    (hv : Value.okWide Tryz.prog w r b0 25 v) (hd : DataW.Trod enc Tryz.prog w base (fun _ => true) held 25 v d ps) (hw : (d.weights Tryz.prog 25).all (· ≤ reachBytes) = true) :
    ∃ (a b c : Int) (A : Option Addr) (cap : Nat) (l : List S134), v = .agg #[.int .i64 a, .int .i64 b, .int .u64 c, .slice A l.length cap] ∧ l.length ≤ cap ∧ Kd.C k134 w A l.length l ∧ okRow l ∧ (Lit.int .i64 a).wf = true ∧ (Lit.int .i64 b).wf = true ∧ (Lit.int .u64 c).wf = true := by
  obtain ⟨v0, v1, v2, v3, y0, y1, y2, y3, n, rfl, rfl, rfl, h0, h1, h2, h3⟩ := Joins.open_agg4 Tryz.underlying25 (by kernel_rfl) (by kernel_rfl) hv hd
  rw [DataW.weights, Tryz.underlying25] at hw
  have hw3 := each_weights (j := 3) hw rfl rfl
  obtain ⟨a, e0, _, w0⟩ := DataW.trod_int Tryz.underlying3 h0
  obtain ⟨b, e1, _, w1⟩ := DataW.trod_int Tryz.underlying3 h1
  obtain ⟨c, e2, _, w2⟩ := DataW.trod_int Tryz.underlying22 h2
  obtain ⟨l, ⟨A, cap, e3, hl, hc⟩, ho⟩ := opensEntries H enc w base n held _ _ h3 hw3
  simp only [List.cons.injEq, and_true] at e0 e1 e2 e3
  subst e0 e1 e2 e3
  exact ⟨a, b, c, A, cap, l, rfl, hl, hc, okArg_row ho, w0, w1, w2⟩
end Go.Proofs.YtndkmnjbjlfeaaaGreat.F06
end
section
namespace Go.Proofs.YtndkmnjbjlfeaaaGreat.F06.XG
open Go Go.RowKit Go.Proofs.YtndkmnjbjlfeaaaGreatW.PrintWords Go.Proofs.YtndkmnjbjlfeaaaGreatW.PrintLast Go.Proofs.YtndkmnjbjlfeaaaGreatW.PrintMore Go.Proofs.YtndkmnjbjlfeaaaGreat.Given Go.Proofs.YtndkmnjbjlfeaaaGreat.M Go.Proofs.YtndkmnjbjlfeaaaGreat.Mont Go.Proofs.YtndkmnjbjlfeaaaGreat.XS Go.Proofs.YtndkmnjbjlfeaaaGreat.XT Go.Proofs.YtndkmnjbjlfeaaaGreat.XR Go.Proofs.YtndkmnjbjlfeaaaGreat.Num Go.Proofs.YtndkmnjbjlfeaaaGreat.XK Go.Proofs.YtndkmnjbjlfeaaaGreat.T10 Go.Proofs.YtndkmnjbjlfeaaaGreat.D11 Go.Proofs.YtndkmnjbjlfeaaaGreat.XW Go.Proofs.YtndkmnjbjlfeaaaGreat.XG Go.Proofs.YtndkmnjbjlfeaaaGreat.Opens
set_option linter.unusedVariables false
theorem gen5 {g : Int} (h : Ev (fun k => epicycleref05_Generator.f k 5) g) : g = 2 :=
  Ev.unique h (Ev.of (g := fun k => epicycleref05_Generator.f k 5) (fun k => epicycleref05_Generator.mono 5 k) (k := 60) (by kernel_rfl))
theorem prime5 : Prime 5 := ⟨by decide, fun d hd => by
  have := Nat.le_of_dvd (by decide) hd
  have : ∀ d : Nat, d ≤ 5 → d ∣ 5 → d = 1 ∨ d = 5 := by decide
  exact this d (by omega) hd⟩
theorem small5 : ∃ F, Ev (fun k => field_Small.f k 5) ([F], 0) ∧ F.p = 5 ∧ F.g = 2 ∧ GoodFld F := by
  obtain ⟨F, h1, h2, h3, h4⟩ := small_odd (x := 5) ⟨by decide, by decide, prime5⟩
  exact ⟨F, h1, h3, gen5 h2, h4⟩
theorem alive_ev : Ev (fun k => epicyclelaw11_alive.f k) true := by
  obtain ⟨F, E, e1, e2, hg⟩ := small5
  have h : FitL F [1, 2, 3, 4] := ⟨by decide, by decide, by rw [e1]; rfl, fun x hx => by
    rw [e1]
    have : x = 1 ∨ x = 2 ∨ x = 3 ∨ x = 4 := by simpa using hx
    omega⟩
  have R := run_ev hg h false
  have e : runL F [1, 2, 3, 4] false = [0, 4, 3, 2] := by
    have hr : trootI F (([1, 2, 3, 4] : List Int).length : Int) false = 2 := by show rootI F 4 = 2; unfold rootI; rw [e1, e2]; rfl
    unfold runL
    rw [hr, e1]
    rfl
  rw [e] at R
  exact Ev.congr (fun k => rfl) (Ev.bind E (Ev.bind R (evP rfl (Ev.bind (same_ev (by decide)) (Ev.now _)))))
theorem helps_l0 {F : Fld} (hg : GoodFld F) {l : List Int} (hu : ∀ x ∈ l, U x) (hn : l.length ≤ 100) {S : List Int} (hl : S.length = l.length) (hS : ∀ i, i < l.length → rd S (i : Int) = invF F.p (l.length : Int) * rd l (i : Int) % F.p) (d : Nat) : ∀ i : Nat, i + d = l.length → Ev (fun k => epicyclelaw11_DftHelps.l0 k l F.p S (S.length : Int) (i : Int)) true := by
  have hlo := hg.lo
  induction d with
  | zero =>
    intro i hi
    exact stepE ⟨_, fun k => by simp only [epicyclelaw11_DftHelps.l0]; rw [if_neg (by omega)], Ev.now _⟩
  | succ d ih =>
    intro i hi
    have hlt : i < l.length := by omega
    have p1 : (i : Int) < (S.length : Int) := by omega
    have p2 : (0 : Int) ≤ (i : Int) := Int.natCast_nonneg _
    have p3 : (i : Int) < (l.length : Int) := by omega
    have ws : wrap64 ((i : Int) + 1) = ((i + 1 : Nat) : Int) := wrap_succ (by omega)
    have wn : IntKind.u64.wrap (l.length : Int) = l.length := wu64_id _ (by omega) (by omega)
    have hr := hS i hlt
    have ul := hu _ (rd_mem hlt)
    have IH := ih (i + 1) (by omega)
    have un : U (l.length : Int) := ⟨by omega, by omega⟩
    have em : Int.tmod (IntKind.u64.wrap (l.length : Int)) F.p = (l.length : Int) % F.p := by rw [wn, tmod_pos (by omega)]
    by_cases c : (l.length : Int) % F.p = 0
    · rw [hg.inv0 c, Int.zero_mul, Int.zero_emod] at hr
      exact stepE ⟨_, fun k => by simp only [epicyclelaw11_DftHelps.l0]; rw [if_pos p1, if_pos p2, if_pos p1, if_neg hg.ne, em, if_pos c, if_pos hr, ws], IH⟩
    · have J : Ev (fun k => epicyclelaw11_DftHelps.j2 k l F.p S (S.length : Int) (i : Int) (decide (rd S (i : Int) ≥ F.p))) true := by
        have : ¬ rd S (i : Int) ≥ F.p := by rw [hr]; have := Int.emod_lt_of_pos (invF F.p (l.length : Int) * rd l (i : Int)) (show 0 < F.p by omega); omega
        rw [decide_eq_false this]
        exact stepE ⟨_, fun k => by simp only [epicyclelaw11_DftHelps.j2]; rw [if_neg Bool.false_ne_true, ws], IH⟩
      have us : U (rd S (i : Int)) := by rw [hr]; exact hg.uE _
      have Mu := ref02_Mul_ev us un hg.uP hg.ne
      have e : rd S (i : Int) * (l.length : Int) % F.p = Int.tmod (rd l (i : Int)) F.p := by
        rw [hr, emod_mul_l, tmod_pos ul.1, Int.mul_right_comm, ← emod_mul_l, (hg.inv c).2.1, Int.one_mul]
      rw [e] at Mu
      refine stepE ⟨_, fun k => by simp only [epicyclelaw11_DftHelps.l0]; rw [if_pos p1, if_pos p2, if_pos p1, if_neg hg.ne, em, if_neg c, wn], ?_⟩
      exact Ev.bind Mu (evP p3 (evP rfl J))
theorem helps_ev {L : List RE} (hL : okRow L) (a b c : Int) {n most : Int} (hn : I64 n) {l : List Int} (hu : ∀ x ∈ l, U x) : Ev (fun k => epicyclelaw11_DftHelps.f k a b c L n most l) true := by
  refine Ev.congr (fun k => rfl) (Ev.bind alive_ev (evP rfl ?_))
  by_cases h1 : (l.length : Int) > 100
  · exact evP h1 (Ev.now _)
  refine evN h1 ?_
  have hl : l.length ≤ 1000000 := by omega
  rcases made_ev hL a b c with M | ⟨F, M, hg⟩
  · refine Ev.bind M (evP rfl (evP rfl (evB (check_nil n most) (evP rfl (Ev.bind (good_nil l) (evN Bool.false_ne_true (Ev.bind (scale_nil hl hu) ?_)))))))
    rw [List.length_map, beq_self_eq_true]
    exact Ev.now _
  have S := scale_ev hg hl hu
  have lS : (l.map fun x => invF F.p (l.length : Int) * x % F.p).length = l.length := List.length_map _
  have H := helps_l0 hg hu (by omega) (S := l.map fun x => invF F.p (l.length : Int) * x % F.p) lS (fun i hi => by rw [rd_at (by omega), List.getElem_map, rd_at hi]) l.length 0 (by omega)
  refine Ev.bind M (evN hg.ne (evB (check_at hn) (evB (rcheck_at hg.lo hg.hi hn) (evP rfl (Ev.bind (good_ev hl) (Ev.bind (rgood_ev hl) ?_))))))
  rw [bne_self_eq_false]
  refine stepE ⟨_, fun k => by simp only [epicyclelaw11_DftHelps.j0]; rw [if_neg Bool.false_ne_true], ?_⟩
  exact Ev.bind S (evP (by rw [lS]) H)
theorem opensU64 : Opens Tryz.prog 26 (Kd.slice 22 (Kd.int .u64)) (fun l => (∀ x ∈ l, (Lit.int .u64 x).wf = true) ∧ l.length * Tryz.prog.bytesOf 22 ≤ reachBytes) :=
  opens_slice Tryz.underlying26 (by kernel_rfl) (opens_int Tryz.underlying22)
section
variable {a b c : Int} {A : Option Addr} {cap : Nat} {l : List RE} {x y : Int} {z : Bool} {W : World} {A1 : Option Addr} {c1 : Nat} {l1 : List Int} {A2 : Option Addr} {c2 : Nat} {l2 : List Int}
def Says (f : Nat) (a b c : Int) (A : Option Addr) (cap : Nat) (l : List RE) (more : List Value) (W : World) : Prop := Calls Tryz.prog f (.agg #[.int .i64 a, .int .i64 b, .int .u64 c, .slice A l.length cap] :: more).toArray W fun e w' => e = .returned (.bool true) ∧ Below W.heap.size W w'
def okU (l : List Int) : Prop := (∀ x ∈ l, (Lit.int .u64 x).wf = true) ∧ l.length * Tryz.prog.bytesOf 22 ≤ reachBytes
theorem okU.u {l : List Int} (h : okU l) : ∀ x ∈ l, U x := fun x hx => wf_U (h.1 x hx)
theorem helps_walk (hc : l.length ≤ cap) (hr : Kd.C k134 W A l.length l) (ho : okRow l) (hc1 : l1.length ≤ c1) (hr1 : Kd.C (Kd.int .u64) W A1 l1.length l1) (ho1 : okU l1) (hx : (Lit.int .i64 x).wf = true) (_hy : (Lit.int .i64 y).wf = true) : Says 4 a b c A cap l [.int .i64 x, .int .i64 y, .slice A1 l1.length c1] W := by
  obtain ⟨k, hk⟩ := Ev.rounds (helps_ev ho a b c (most := y) (wf_I hx) ho1.u)
  exact epicyclelaw11_DftHelps.calls k a b c A cap l x y A1 c1 l1 W hr hc hr1 hc1 hk
end
end Go.Proofs.YtndkmnjbjlfeaaaGreat.F06.XG
end
