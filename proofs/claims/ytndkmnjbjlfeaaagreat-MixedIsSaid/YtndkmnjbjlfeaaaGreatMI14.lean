/- Parts of this claim's texts, packed by wip/tools/prune.py: what the proof does not reach is left out. -/
import Derived.Test.YtndkmnjbjlfeaaaGreatMI13
import Derived.Lib.SmallJoins
section
namespace Go.Proofs.YtndkmnjbjlfeaaaGreat.F06
open Go Go.RowKit Go.Proofs.YtndkmnjbjlfeaaaGreatW.PrintWords Go.Proofs.YtndkmnjbjlfeaaaGreatW.PrintLast Go.Proofs.YtndkmnjbjlfeaaaGreatW.PrintMore Go.Proofs.YtndkmnjbjlfeaaaGreat.Given Go.Proofs.YtndkmnjbjlfeaaaGreat.M Go.Proofs.YtndkmnjbjlfeaaaGreat.Mont Go.Proofs.YtndkmnjbjlfeaaaGreat.XS Go.Proofs.YtndkmnjbjlfeaaaGreat.XT Go.Proofs.YtndkmnjbjlfeaaaGreat.XR Go.Proofs.YtndkmnjbjlfeaaaGreat.Opens
instance : Inhabited S146 := ⟨z146⟩
instance : Inhabited S134 := ⟨z134⟩
theorem opensPower : Opens Tryz.prog 146 k146 (fun x => (Lit.int .u64 x.f0).wf = true ∧ (Lit.int .i64 x.f1).wf = true) :=
  opens_iso (fun x : S146 => (x.f0, x.f1)) (fun a => ⟨a.1, a.2⟩) (fun _ => rfl)
    (opens_struct2 Tryz.underlying146 rfl rfl (by kernel_rfl) (by kernel_rfl) (opens_int Tryz.underlying22) (opens_int Tryz.underlying3))
theorem opensPowers : Opens Tryz.prog 132 (Kd.slice 146 k146) (fun l => (∀ x ∈ l, (Lit.int .u64 x.f0).wf = true ∧ (Lit.int .i64 x.f1).wf = true) ∧ l.length * Tryz.prog.bytesOf 146 ≤ reachBytes) :=
  opens_slice Tryz.underlying132 (by kernel_rfl) opensPower
theorem opensEntry : Opens Tryz.prog 134 k134 (fun x => (Lit.int .u64 x.f0).wf = true ∧ (Lit.int .u64 x.f1).wf = true ∧ ((∀ y ∈ x.f2, (Lit.int .u64 y.f0).wf = true ∧ (Lit.int .i64 y.f1).wf = true) ∧ x.f2.length * Tryz.prog.bytesOf 146 ≤ reachBytes)) :=
  opens_iso (fun x : S134 => (x.f0, x.f1, x.f2)) (fun a => ⟨a.1, a.2.1, a.2.2⟩) (fun _ => rfl)
    (opens_struct3 Tryz.underlying134 rfl rfl (by kernel_rfl) (by kernel_rfl) (by kernel_rfl) (opens_int Tryz.underlying22) (opens_int Tryz.underlying22) opensPowers)
def okArg (l : List S134) : Prop := (∀ x ∈ l, (Lit.int .u64 x.f0).wf = true ∧ (Lit.int .u64 x.f1).wf = true ∧ ((∀ y ∈ x.f2, (Lit.int .u64 y.f0).wf = true ∧ (Lit.int .i64 y.f1).wf = true) ∧ x.f2.length * Tryz.prog.bytesOf 146 ≤ reachBytes)) ∧ l.length * Tryz.prog.bytesOf 134 ≤ reachBytes
theorem opensEntries : Opens Tryz.prog 23 (Kd.slice 134 k134) okArg := opens_slice Tryz.underlying23 (by kernel_rfl) opensEntry
theorem okArg_row {l : List S134} (h : okArg l) : okRow l := by
  have b46 : Tryz.prog.bytesOf 134 = 40 := by kernel_rfl
  have b60 : Tryz.prog.bytesOf 146 = 16 := by kernel_rfl
  have hr : reachBytes = 140737488351232 := rfl
  unfold okArg at h
  rw [b46, b60, hr] at h
  refine ⟨⟨by omega, fun e he => by have := (h.1 e he).2.2.2; omega⟩, fun e he => ?_⟩
  obtain ⟨x, hx, rfl⟩ := List.mem_map.1 he
  obtain ⟨w0, w1, w2, _⟩ := h.1 x hx
  refine ⟨wf_U w0, wf_U w1, fun y hy => ?_⟩
  obtain ⟨z, hz, rfl⟩ := List.mem_map.1 hy
  exact ⟨wf_U (w2 z hz).1, wf_I (w2 z hz).2⟩
set_option maxRecDepth 100000 in
/-- A source: three numbers and a row. -/
theorem arg_source {H : Type} {enc : TypeId × Value → H} {w : World} {base b0 : Nat} {r : Reach} {held : Bool} {v : Value} {d : DataW H} {ps : List MemPlace}
    (hv : Value.okWide Tryz.prog w r b0 25 v) (hd : DataW.Trod enc Tryz.prog w base (fun _ => true) held 25 v d ps) (hw : (d.weights Tryz.prog 25).all (· ≤ reachBytes) = true) :
    ∃ (a b c : Int) (A : Option Addr) (cap : Nat) (l : List S134), v = .agg #[.int .i64 a, .int .i64 b, .int .u64 c, .slice A l.length cap] ∧ l.length ≤ cap ∧ Kd.C k134 w A l.length l ∧ okRow l ∧ (Lit.int .i64 a).wf = true ∧ (Lit.int .i64 b).wf = true ∧ (Lit.int .u64 c).wf = true := by
  obtain ⟨v0, v1, v2, v3, y0, y1, y2, y3, n, rfl, rfl, rfl, h0, h1, h2, h3⟩ := Joins.open_agg4 Tryz.underlying25 (by kernel_rfl) (by kernel_rfl) hv hd
  rw [DataW.weights, Tryz.underlying25] at hw
  have hw3 := each_weights (j := 3) hw rfl rfl
  obtain ⟨a, e0, _, w0⟩ := DataW.trod_int Tryz.underlying3 h0
  obtain ⟨b, e1, _, w1⟩ := DataW.trod_int Tryz.underlying3 h1
  obtain ⟨c, e2, _, w2⟩ := DataW.trod_int Tryz.underlying22 h2
  obtain ⟨l, ⟨A, cap, e3, hl, hc⟩, ho⟩ := opensEntries H enc w base n held _ _ h3 hw3
  simp only [List.cons.injEq, and_true] at e0 e1 e2 e3
  subst e0 e1 e2 e3
  exact ⟨a, b, c, A, cap, l, rfl, hl, hc, okArg_row ho, w0, w1, w2⟩
end Go.Proofs.YtndkmnjbjlfeaaaGreat.F06
end
section
namespace Go.Proofs.YtndkmnjbjlfeaaaGreat.F06.XM
open Go Go.RowKit Go.Proofs.YtndkmnjbjlfeaaaGreatW.PrintWords Go.Proofs.YtndkmnjbjlfeaaaGreatW.PrintLast Go.Proofs.YtndkmnjbjlfeaaaGreatW.PrintMore Go.Proofs.YtndkmnjbjlfeaaaGreat.Given Go.Proofs.YtndkmnjbjlfeaaaGreat.M Go.Proofs.YtndkmnjbjlfeaaaGreat.Mont Go.Proofs.YtndkmnjbjlfeaaaGreat.XS Go.Proofs.YtndkmnjbjlfeaaaGreat.XT Go.Proofs.YtndkmnjbjlfeaaaGreat.XR Go.Proofs.YtndkmnjbjlfeaaaGreat.Num Go.Proofs.YtndkmnjbjlfeaaaGreat.XK Go.Proofs.YtndkmnjbjlfeaaaGreat.T10 Go.Proofs.YtndkmnjbjlfeaaaGreat.D11 Go.Proofs.YtndkmnjbjlfeaaaGreat.D14 Go.Proofs.YtndkmnjbjlfeaaaGreat.XW Go.Proofs.YtndkmnjbjlfeaaaGreat.XG Go.Proofs.YtndkmnjbjlfeaaaGreat.XM
set_option linter.unusedVariables false
theorem gen7 {g : Int} (h : Ev (fun k => epicycleref05_Generator.f k 7) g) : g = 3 :=
  Ev.unique h (Ev.of (g := fun k => epicycleref05_Generator.f k 7) (fun k => epicycleref05_Generator.mono 7 k) (k := 60) (by kernel_rfl))
theorem prime7 : Prime 7 := ⟨by decide, fun d hd => by
  have := Nat.le_of_dvd (by decide) hd
  have : ∀ d : Nat, d ≤ 7 → d ∣ 7 → d = 1 ∨ d = 7 := by decide
  exact this d (by omega) hd⟩
theorem small7 : ∃ F, Ev (fun k => field_Small.f k 7) ([F], 0) ∧ F.p = 7 ∧ F.g = 3 ∧ GoodFld F := by
  obtain ⟨F, h1, h2, h3, h4⟩ := small_odd (x := 7) ⟨by decide, by decide, prime7⟩
  exact ⟨F, h1, h3, gen7 h2, h4⟩
theorem alive_ev : Ev (fun k => epicyclelaw14_alive.f k) true := by
  obtain ⟨F, E, e1, e2, hg⟩ := small7
  have h : FitL F [1, 2, 4] := ⟨by decide, by decide, by rw [e1]; rfl, fun x hx => by
    rw [e1]
    have : x = 1 ∨ x = 2 ∨ x = 4 := by simpa using hx
    omega⟩
  have R3 : Ev (fun k => mixed_Radices.f k ((([1, 2, 4] : List Int).length : Nat) : Int)) (iL [3], true) := Ev.of (g := fun k => mixed_Radices.f k ((([1, 2, 4] : List Int).length : Nat) : Int)) (fun k => mixed_Radices.mono _ k) (k := 60) (by kernel_rfl)
  have R60 : Ev (fun k => mixed_Radices.f k 60) ([2, 2, 3, 5], true) := Ev.of (g := fun k => mixed_Radices.f k 60) (fun k => mixed_Radices.mono _ k) (k := 60) (by kernel_rfl)
  have R := mrun_ev hg h (rs := [3]) ⟨rfl, fun r hr => by
    have : r = 3 := by simpa using hr
    omega, by decide, by decide, by decide⟩ R3 false
  have e : runL F [1, 2, 4] false = [0, 0, 3] := by
    have hr : trootI F (([1, 2, 4] : List Int).length : Int) false = 2 := by show rootI F 3 = 2; unfold rootI; rw [e1, e2]; rfl
    unfold runL
    rw [hr, e1]
    rfl
  rw [e] at R
  exact Ev.congr (fun k => rfl) (Ev.bind E (Ev.bind R (Ev.bind R60 (evP rfl (Ev.bind (same_ev (by decide)) (evP rfl (evP rfl (evP rfl (evP (by decide) (Ev.now _))))))))))
theorem fault_ev {F : Fld} (hg : GoodFld F) {l : List Int} (hn : l.length ≤ 1000000) (hu : ∀ x ∈ l, U x) : ∃ v, Ev (fun k => epicycleref14_Fault.f k F.p l) v ∧ ((v = 0 ∧ FitL F l ∧ ∀ l' inv, FitL F l' → l'.length = l.length → Ev (fun k => mixed_Run.f k [F] l' inv) (runL F l' inv, 0)) ∨ (v ≠ 0 ∧ ∀ inv, Ev (fun k => mixed_Run.f k [F] l inv) ([], v))) := by
  have C := rcheck_at (most := 1024) hg.lo hg.hi (len_I hn)
  by_cases h1 : chk F.p l.length 1024 = 0
  · rw [h1] at C
    obtain ⟨c1, c2, c3⟩ := chk_0 h1
    obtain ⟨L, b, P, D, hb⟩ := rad_ev (l.length : Int)
    cases b with
    | false => exact ⟨11, Ev.congr (fun k => rfl) (evB C (evP rfl (Ev.bind D (evN Bool.false_ne_true (Ev.now _))))), .inr ⟨by decide, fun inv => mrun_kind hn inv h1 P⟩⟩
    | true =>
      obtain ⟨rs, m, em, rfl, hR⟩ := hb rfl
      obtain rfl : l.length = m := Int.ofNat_inj.1 em
      have G := rgood_ev (p := F.p) hn
      by_cases h3 : allB F.p l = true
      · rw [h3] at G
        have h : FitL F l := ⟨by omega, by omega, c3, fun x hx => ⟨(hu x hx).1, of_decide_eq_true h3 x hx⟩⟩
        exact ⟨0, Ev.congr (fun k => rfl) (evB C (evP rfl (Ev.bind D (evP rfl (Ev.bind G (evP rfl (Ev.now _))))))), .inl ⟨rfl, h, fun l' inv h' e => mrun_ev hg h' (by rw [e]; exact hR) (by rw [e]; exact P) inv⟩⟩
      · have h3' := Bool.eq_false_iff.2 h3
        rw [h3'] at G
        exact ⟨9, Ev.congr (fun k => rfl) (evB C (evP rfl (Ev.bind D (evP rfl (Ev.bind G (evN Bool.false_ne_true (Ev.now _))))))), .inr ⟨by decide, fun inv => mrun_bad hn inv h1 P h3'⟩⟩
  · exact ⟨_, Ev.congr (fun k => rfl) (evB C (evN h1 (Ev.now _))), .inr ⟨h1, fun inv => mrun_chk hn inv h1⟩⟩
end Go.Proofs.YtndkmnjbjlfeaaaGreat.F06.XM
end
section
namespace Go.Proofs.YtndkmnjbjlfeaaaGreat.F06.XM
open Go Go.RowKit Go.Proofs.YtndkmnjbjlfeaaaGreatW.PrintWords Go.Proofs.YtndkmnjbjlfeaaaGreatW.PrintLast Go.Proofs.YtndkmnjbjlfeaaaGreatW.PrintMore Go.Proofs.YtndkmnjbjlfeaaaGreat.Given Go.Proofs.YtndkmnjbjlfeaaaGreat.M Go.Proofs.YtndkmnjbjlfeaaaGreat.Mont Go.Proofs.YtndkmnjbjlfeaaaGreat.XS Go.Proofs.YtndkmnjbjlfeaaaGreat.XT Go.Proofs.YtndkmnjbjlfeaaaGreat.XR Go.Proofs.YtndkmnjbjlfeaaaGreat.Num Go.Proofs.YtndkmnjbjlfeaaaGreat.XK Go.Proofs.YtndkmnjbjlfeaaaGreat.T10 Go.Proofs.YtndkmnjbjlfeaaaGreat.D11 Go.Proofs.YtndkmnjbjlfeaaaGreat.D14 Go.Proofs.YtndkmnjbjlfeaaaGreat.XW Go.Proofs.YtndkmnjbjlfeaaaGreat.XG Go.Proofs.YtndkmnjbjlfeaaaGreat.XM Go.Proofs.YtndkmnjbjlfeaaaGreat.Opens
set_option linter.unusedVariables false
theorem is_ev {L : List RE} (hL : okRow L) (a b c : Int) {l : List Int} (hu : ∀ x ∈ l, U x) (inv : Bool) : Ev (fun k => epicyclelaw14_MixedIs.f k a b c L l inv) true := by
  refine Ev.congr (fun k => rfl) (Ev.bind alive_ev (evP rfl ?_))
  by_cases h1 : (l.length : Int) > 1100
  · exact evP h1 (Ev.now _)
  refine evN h1 ?_
  have hn : l.length ≤ 1000000 := by omega
  have S := same_ev hn
  have ha : (([] : List Int)).length + l.length < 17592186044416 := by show 0 + l.length < 17592186044416; omega
  rcases made_ev hL a b c with M | ⟨F, M, hg⟩
  · exact Ev.bind M (evP ha (evB rfl (Ev.bind (mrun_nil l inv) (Ev.bind S (evP rfl (evP rfl (evP rfl (evP rfl (Ev.now _)))))))))
  obtain ⟨v, V, ⟨rfl, h, R⟩ | ⟨hv, R⟩⟩ := fault_ev hg hn hu
  · refine Ev.bind M (evP ha (evB rfl (Ev.bind (R l inv h rfl) (Ev.bind S (evP rfl (evN hg.ne (Ev.bind V (evP rfl ?_))))))))
    by_cases h4 : (l.length : Int) > 36
    · refine evP h4 (evP rfl ?_)
      rw [runL_len, beq_self_eq_true]
      exact Ev.now _
    · exact evN h4 (evP rfl (Ev.bind (rrun_ev hg h inv) (Ev.bind (same_ev (by rw [runL_len]; omega)) (Ev.now _))))
  · refine Ev.bind M (evP ha (evB rfl (Ev.bind (R inv) (Ev.bind S (evP rfl (evN hg.ne (Ev.bind V (evN hv (evP rfl ?_)))))))))
    rw [beq_self_eq_true]
    exact Ev.now _
theorem opensU64 : Opens Tryz.prog 26 (Kd.slice 22 (Kd.int .u64)) (fun l => (∀ x ∈ l, (Lit.int .u64 x).wf = true) ∧ l.length * Tryz.prog.bytesOf 22 ≤ reachBytes) :=
  opens_slice Tryz.underlying26 (by kernel_rfl) (opens_int Tryz.underlying22)
section
variable {a b c : Int} {A : Option Addr} {cap : Nat} {l : List RE} {x : Int} {z : Bool} {W : World} {A1 : Option Addr} {c1 : Nat} {l1 : List Int}
def Says (f : Nat) (a b c : Int) (A : Option Addr) (cap : Nat) (l : List RE) (more : List Value) (W : World) : Prop := Calls Tryz.prog f (.agg #[.int .i64 a, .int .i64 b, .int .u64 c, .slice A l.length cap] :: more).toArray W fun e w' => e = .returned (.bool true) ∧ Below W.heap.size W w'
def okU (l : List Int) : Prop := (∀ x ∈ l, (Lit.int .u64 x).wf = true) ∧ l.length * Tryz.prog.bytesOf 22 ≤ reachBytes
theorem okU.u {l : List Int} (h : okU l) : ∀ x ∈ l, U x := fun x hx => wf_U (h.1 x hx)
theorem is_walk (hc : l.length ≤ cap) (hr : Kd.C k134 W A l.length l) (ho : okRow l) (hc1 : l1.length ≤ c1) (hr1 : Kd.C (Kd.int .u64) W A1 l1.length l1) (ho1 : okU l1) : Says 10 a b c A cap l [.slice A1 l1.length c1, .bool z] W := by
  obtain ⟨k, hk⟩ := Ev.rounds (is_ev ho a b c ho1.u z)
  exact epicyclelaw14_MixedIs.calls k a b c A cap l A1 c1 l1 z W hr hc hr1 hc1 hk
end
end Go.Proofs.YtndkmnjbjlfeaaaGreat.F06.XM
end
