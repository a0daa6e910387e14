/- Parts of this claim's texts, packed by wip/tools/prune.py: what the proof does not reach is left out. -/
import Derived.Test.YthnpjjpdlihepaaPV14
import Derived.Lib.SmallJoins
section
namespace Go.Proofs.Ythnpjjpdlihepaa.F06
open Go Go.RowKit Go.Proofs.YthnpjjpdlihepaaW.PrintWords Go.Proofs.YthnpjjpdlihepaaW.PrintLast Go.Proofs.YthnpjjpdlihepaaW.PrintMore Go.Proofs.Ythnpjjpdlihepaa.Given Go.Proofs.Ythnpjjpdlihepaa.M Go.Proofs.Ythnpjjpdlihepaa.Mont Go.Proofs.Ythnpjjpdlihepaa.XS Go.Proofs.Ythnpjjpdlihepaa.XT Go.Proofs.Ythnpjjpdlihepaa.XR Go.Proofs.Ythnpjjpdlihepaa.Opens
instance : Inhabited S89 := ⟨z89⟩
instance : Inhabited S52 := ⟨z52⟩
theorem opensPower : Opens Try.prog 89 k89 (fun x => (Lit.int .u64 x.f0).wf = true ∧ (Lit.int .i64 x.f1).wf = true) :=
  opens_iso (fun x : S89 => (x.f0, x.f1)) (fun a => ⟨a.1, a.2⟩) (fun _ => rfl)
    (opens_struct2 Try.underlying89 rfl rfl (by kernel_rfl) (by kernel_rfl) (opens_int Try.underlying22) (opens_int Try.underlying3))
theorem opensPowers : Opens Try.prog 50 (Kd.slice 89 k89) (fun l => (∀ x ∈ l, (Lit.int .u64 x.f0).wf = true ∧ (Lit.int .i64 x.f1).wf = true) ∧ l.length * Try.prog.bytesOf 89 ≤ reachBytes) :=
  opens_slice Try.underlying50 (by kernel_rfl) opensPower
theorem opensEntry : Opens Try.prog 52 k52 (fun x => (Lit.int .u64 x.f0).wf = true ∧ (Lit.int .u64 x.f1).wf = true ∧ ((∀ y ∈ x.f2, (Lit.int .u64 y.f0).wf = true ∧ (Lit.int .i64 y.f1).wf = true) ∧ x.f2.length * Try.prog.bytesOf 89 ≤ reachBytes)) :=
  opens_iso (fun x : S52 => (x.f0, x.f1, x.f2)) (fun a => ⟨a.1, a.2.1, a.2.2⟩) (fun _ => rfl)
    (opens_struct3 Try.underlying52 rfl rfl (by kernel_rfl) (by kernel_rfl) (by kernel_rfl) (opens_int Try.underlying22) (opens_int Try.underlying22) opensPowers)
def okArg (l : List S52) : Prop := (∀ x ∈ l, (Lit.int .u64 x.f0).wf = true ∧ (Lit.int .u64 x.f1).wf = true ∧ ((∀ y ∈ x.f2, (Lit.int .u64 y.f0).wf = true ∧ (Lit.int .i64 y.f1).wf = true) ∧ x.f2.length * Try.prog.bytesOf 89 ≤ reachBytes)) ∧ l.length * Try.prog.bytesOf 52 ≤ reachBytes
theorem opensEntries : Opens Try.prog 23 (Kd.slice 52 k52) okArg := opens_slice Try.underlying23 (by kernel_rfl) opensEntry
theorem okArg_row {l : List S52} (h : okArg l) : okRow l := by
  have b46 : Try.prog.bytesOf 52 = 40 := by kernel_rfl
  have b60 : Try.prog.bytesOf 89 = 16 := by kernel_rfl
  have hr : reachBytes = 140737488351232 := rfl
  unfold okArg at h
  rw [b46, b60, hr] at h
  refine ⟨⟨by omega, fun e he => by have := (h.1 e he).2.2.2; omega⟩, fun e he => ?_⟩
  obtain ⟨x, hx, rfl⟩ := List.mem_map.1 he
  obtain ⟨w0, w1, w2, _⟩ := h.1 x hx
  refine ⟨wf_U w0, wf_U w1, fun y hy => ?_⟩
  obtain ⟨z, hz, rfl⟩ := List.mem_map.1 hy
  exact ⟨wf_U (w2 z hz).1, wf_I (w2 z hz).2⟩
set_option maxRecDepth 100000 in
/-- A source: three numbers and a row. -/
theorem arg_source {H : Type} {enc : TypeId × Value → H} {w : World} {base b0 : Nat} {r : Reach} {held : Bool} {v : Value} {d : DataW H} {ps : List MemPlace}
    (hv : Value.okWide Try.prog w r b0 25 v) (hd : DataW.Trod enc Try.prog w base (fun _ => true) held 25 v d ps) (hw : (d.weights Try.prog 25).all (· ≤ reachBytes) = true) :
    ∃ (a b c : Int) (A : Option Addr) (cap : Nat) (l : List S52), v = .agg #[.int .i64 a, .int .i64 b, .int .u64 c, .slice A l.length cap] ∧ l.length ≤ cap ∧ Kd.C k52 w A l.length l ∧ okRow l ∧ (Lit.int .i64 a).wf = true ∧ (Lit.int .i64 b).wf = true ∧ (Lit.int .u64 c).wf = true := by
  obtain ⟨v0, v1, v2, v3, y0, y1, y2, y3, n, rfl, rfl, rfl, h0, h1, h2, h3⟩ := Joins.open_agg4 Try.underlying25 (by kernel_rfl) (by kernel_rfl) hv hd
  rw [DataW.weights, Try.underlying25] at hw
  have hw3 := each_weights (j := 3) hw rfl rfl
  obtain ⟨a, e0, _, w0⟩ := DataW.trod_int Try.underlying3 h0
  obtain ⟨b, e1, _, w1⟩ := DataW.trod_int Try.underlying3 h1
  obtain ⟨c, e2, _, w2⟩ := DataW.trod_int Try.underlying22 h2
  obtain ⟨l, ⟨A, cap, e3, hl, hc⟩, ho⟩ := opensEntries H enc w base n held _ _ h3 hw3
  simp only [List.cons.injEq, and_true] at e0 e1 e2 e3
  subst e0 e1 e2 e3
  exact ⟨a, b, c, A, cap, l, rfl, hl, hc, okArg_row ho, w0, w1, w2⟩
end Go.Proofs.Ythnpjjpdlihepaa.F06
end
section
namespace Go.Proofs.Ythnpjjpdlihepaa.F06.XW
open Go Go.RowKit Go.Proofs.YthnpjjpdlihepaaW.PrintWords Go.Proofs.YthnpjjpdlihepaaW.PrintLast Go.Proofs.YthnpjjpdlihepaaW.PrintMore Go.Proofs.Ythnpjjpdlihepaa.Given Go.Proofs.Ythnpjjpdlihepaa.M Go.Proofs.Ythnpjjpdlihepaa.Mont Go.Proofs.Ythnpjjpdlihepaa.XS Go.Proofs.Ythnpjjpdlihepaa.XT Go.Proofs.Ythnpjjpdlihepaa.XR Go.Proofs.Ythnpjjpdlihepaa.Num Go.Proofs.Ythnpjjpdlihepaa.XK Go.Proofs.Ythnpjjpdlihepaa.T10 Go.Proofs.Ythnpjjpdlihepaa.XW Go.Proofs.Ythnpjjpdlihepaa.Opens
theorem powL_U {F : Fld} (hg : GoodFld F) (w : Int) (n : Nat) : ∀ x ∈ powL F.p w n, U x := fun x hx => by
  unfold powL at hx
  obtain ⟨i, _, rfl⟩ := List.mem_map.1 hx
  exact hg.uE _
theorem alive_ev : Ev (fun k => epicyclelaw10_alive.f k) true := by
  obtain ⟨F, E, e1, e2, hg⟩ := small17
  have hd : (F.p - 1) % 4 = 0 := by rw [e1]; rfl
  have hr : trootI F 4 false = 13 := by show rootI F 4 = 13; unfold rootI; rw [e1, e2]; rfl
  have T := table_ev hg (n := 4) (by decide) (by decide) hd false
  obtain ⟨b, V, hb⟩ := verify_ev hg (powL_U hg (trootI F 4 false) (4 : Int).toNat)
  have rg := trootI_range hg 4 false
  have hbt : b = true := hb.2 (powL_tab hg.lo (by decide) (by decide) rg.1 rg.2 fun k => troot_ord hg (by decide) hd false k)
  subst hbt
  have l4 : ((powL F.p (trootI F 4 false) (4 : Int).toNat).length : Int) = 4 := by rw [powL_len]; rfl
  have r1 : rd (powL F.p (trootI F 4 false) (4 : Int).toNat) 1 = 13 := by
    have := rd_powL (p := F.p) (w := trootI F 4 false) (n := (4 : Int).toNat) (i := 1) (by decide)
    rw [hr, e1] at this ⊢
    exact this
  have r3 : rd (powL F.p (trootI F 4 false) (4 : Int).toNat) 3 = 4 := by
    have := rd_powL (p := F.p) (w := trootI F 4 false) (n := (4 : Int).toNat) (i := 3) (by decide)
    rw [hr, e1] at this ⊢
    exact this
  exact Ev.congr (fun k => rfl) (Ev.bind E (Ev.bind T (evP rfl (evP l4 (evP (by rw [l4]; decide) (evP r1 (evP (by rw [l4]; decide) (evP r3 (Ev.bind V (Ev.now _))))))))))
theorem verifies_ev {L : List RE} (hL : okRow L) (a b c : Int) {l : List Int} (hl : ∀ x ∈ l, U x) : Ev (fun k => epicyclelaw10_TwiddleVerifies.f k a b c L l) true := by
  refine Ev.congr (fun k => rfl) (Ev.bind alive_ev (evP rfl ?_))
  have big : ∀ (F : List Fld) (p g : Int), (l.length : Int) > 300 → Ev (fun k => epicyclelaw10_made.f k a b c L) (F, p, g) → Ev (fun n => (epicyclelaw10_made.f n a b c L).bind fun bt170 => (if (l.length : Int) > 300 then (some true) else (if bt170.2.1 = 0 then (if (bt170.1.length : Int) = 0 then ((twiddle_Verify.f n bt170.1 l).bind fun t175 => (some (!t175))) else (some false)) else ((twiddle_Verify.f n bt170.1 l).bind fun t176 => ((epicycleref10_Right.f n bt170.2.1 l).bind fun t177 => (some (t176 == t177))))))) true :=
    fun F p g h M => Ev.bind M (evP h (Ev.now _))
  rcases made_ev hL a b c with M | ⟨F, M, hg⟩
  · by_cases h : (l.length : Int) > 300
    · exact big _ _ _ h M
    · exact Ev.bind M (evN h (evP rfl (evP rfl (Ev.bind (verify_nil l) (Ev.now _)))))
  · by_cases h : (l.length : Int) > 300
    · exact big _ _ _ h M
    · obtain ⟨x, V, hx⟩ := verify_ev hg hl
      obtain ⟨y, R, hy⟩ := right_ev hg.lo hg.uP hl
      have e : x = y := Bool.eq_iff_iff.2 (hx.trans hy.symm)
      subst e
      refine Ev.bind M (evN h (evN hg.ne (Ev.bind V (Ev.bind R ?_))))
      rw [beq_self_eq_true]
      exact Ev.now _
theorem opensU64 : Opens Try.prog 41 (Kd.slice 22 (Kd.int .u64)) (fun l => (∀ x ∈ l, (Lit.int .u64 x).wf = true) ∧ l.length * Try.prog.bytesOf 22 ≤ reachBytes) :=
  opens_slice Try.underlying41 (by kernel_rfl) (opens_int Try.underlying22)
section
variable {a b c : Int} {A : Option Addr} {cap : Nat} {l : List RE} {x y z : Int} {W : World} (hc : l.length ≤ cap) (hr : Kd.C k52 W A l.length l) (ho : okRow l)
def Says (f : Nat) (a b c : Int) (A : Option Addr) (cap : Nat) (l : List RE) (more : List Value) (W : World) : Prop := Calls Try.prog f (.agg #[.int .i64 a, .int .i64 b, .int .u64 c, .slice A l.length cap] :: more).toArray W fun e w' => e = .returned (.bool true) ∧ Below W.heap.size W w'
include hc hr ho
theorem verifies_walk {A1 : Option Addr} {c1 : Nat} {l1 : List Int} (hc1 : l1.length ≤ c1) (hr1 : Kd.C (Kd.int .u64) W A1 l1.length l1) (ho1 : (∀ x ∈ l1, (Lit.int .u64 x).wf = true) ∧ l1.length * Try.prog.bytesOf 22 ≤ reachBytes) : Says 8 a b c A cap l [.slice A1 l1.length c1] W := by
  obtain ⟨k, hk⟩ := Ev.rounds (verifies_ev ho a b c (l := l1) fun x hx => wf_U (ho1.1 x hx))
  exact epicyclelaw10_TwiddleVerifies.calls k a b c A cap l A1 c1 l1 W hr hc hr1 hc1 hk
end
end Go.Proofs.Ythnpjjpdlihepaa.F06.XW
end
