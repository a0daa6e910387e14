/- Parts of this claim's texts, packed by wip/tools/prune.py: what the proof does not reach is left out. -/
import Derived.Test.YthnpjjpdlihepaaPY14
import Derived.Lib.SmallJoins
section
namespace Go.Proofs.Ythnpjjpdlihepaa.F06
open Go Go.RowKit Go.Proofs.YthnpjjpdlihepaaW.PrintWords Go.Proofs.YthnpjjpdlihepaaW.PrintLast Go.Proofs.YthnpjjpdlihepaaW.PrintMore Go.Proofs.Ythnpjjpdlihepaa.Given Go.Proofs.Ythnpjjpdlihepaa.M Go.Proofs.Ythnpjjpdlihepaa.Mont Go.Proofs.Ythnpjjpdlihepaa.XS Go.Proofs.Ythnpjjpdlihepaa.XT Go.Proofs.Ythnpjjpdlihepaa.XR Go.Proofs.Ythnpjjpdlihepaa.Opens
instance : Inhabited S89 := ⟨z89⟩
instance : Inhabited S52 := ⟨z52⟩
theorem opensPower : Opens Try.prog 89 k89 (fun x => (Lit.int .u64 x.f0).wf = true ∧ (Lit.int .i64 x.f1).wf = true) :=
  opens_iso (fun x : S89 => (x.f0, x.f1)) (fun a => ⟨a.1, a.2⟩) (fun _ => rfl)
    (opens_struct2 Try.underlying89 rfl rfl (by kernel_rfl) (by kernel_rfl) (opens_int Try.underlying22) (opens_int Try.underlying3))
theorem opensPowers : Opens Try.prog 50 (Kd.slice 89 k89) (fun l => (∀ x ∈ l, (Lit.int .u64 x.f0).wf = true ∧ (Lit.int .i64 x.f1).wf = true) ∧ l.length * Try.prog.bytesOf 89 ≤ reachBytes) :=
  opens_slice Try.underlying50 (by kernel_rfl) opensPower
theorem opensEntry : Opens Try.prog 52 k52 (fun x => (Lit.int .u64 x.f0).wf = true ∧ (Lit.int .u64 x.f1).wf = true ∧ ((∀ y ∈ x.f2, (Lit.int .u64 y.f0).wf = true ∧ (Lit.int .i64 y.f1).wf = true) ∧ x.f2.length * Try.prog.bytesOf 89 ≤ reachBytes)) :=
  opens_iso (fun x : S52 => (x.f0, x.f1, x.f2)) (fun a => ⟨a.1, a.2.1, a.2.2⟩) (fun _ => rfl)
    (opens_struct3 Try.underlying52 rfl rfl (by kernel_rfl) (by kernel_rfl) (by kernel_rfl) (opens_int Try.underlying22) (opens_int Try.underlying22) opensPowers)
def okArg (l : List S52) : Prop := (∀ x ∈ l, (Lit.int .u64 x.f0).wf = true ∧ (Lit.int .u64 x.f1).wf = true ∧ ((∀ y ∈ x.f2, (Lit.int .u64 y.f0).wf = true ∧ (Lit.int .i64 y.f1).wf = true) ∧ x.f2.length * Try.prog.bytesOf 89 ≤ reachBytes)) ∧ l.length * Try.prog.bytesOf 52 ≤ reachBytes
theorem opensEntries : Opens Try.prog 23 (Kd.slice 52 k52) okArg := opens_slice Try.underlying23 (by kernel_rfl) opensEntry
theorem okArg_row {l : List S52} (h : okArg l) : okRow l := by
  have b46 : Try.prog.bytesOf 52 = 40 := by kernel_rfl
  have b60 : Try.prog.bytesOf 89 = 16 := by kernel_rfl
  have hr : reachBytes = 140737488351232 := rfl
  unfold okArg at h
  rw [b46, b60, hr] at h
  refine ⟨⟨by omega, fun e he => by have := (h.1 e he).2.2.2; omega⟩, fun e he => ?_⟩
  obtain ⟨x, hx, rfl⟩ := List.mem_map.1 he
  obtain ⟨w0, w1, w2, _⟩ := h.1 x hx
  refine ⟨wf_U w0, wf_U w1, fun y hy => ?_⟩
  obtain ⟨z, hz, rfl⟩ := List.mem_map.1 hy
  exact ⟨wf_U (w2 z hz).1, wf_I (w2 z hz).2⟩
set_option maxRecDepth 100000 in
/-- A source: three numbers and a row. -/
theorem arg_source {H : Type} {enc : TypeId × Value → H} {w : World} {base b0 : Nat} {r : Reach} {held : Bool} {v : Value} {d : DataW H} {ps : List MemPlace}
    (hv : Value.okWide Try.prog w r b0 25 v) (hd : DataW.Trod enc Try.prog w base (fun _ => true) held 25 v d ps) (hw : (d.weights Try.prog 25).all (· ≤ reachBytes) = true) :
    ∃ (a b c : Int) (A : Option Addr) (cap : Nat) (l : List S52), v = .agg #[.int .i64 a, .int .i64 b, .int .u64 c, .slice A l.length cap] ∧ l.length ≤ cap ∧ Kd.C k52 w A l.length l ∧ okRow l ∧ (Lit.int .i64 a).wf = true ∧ (Lit.int .i64 b).wf = true ∧ (Lit.int .u64 c).wf = true := by
  obtain ⟨v0, v1, v2, v3, y0, y1, y2, y3, n, rfl, rfl, rfl, h0, h1, h2, h3⟩ := Joins.open_agg4 Try.underlying25 (by kernel_rfl) (by kernel_rfl) hv hd
  rw [DataW.weights, Try.underlying25] at hw
  have hw3 := each_weights (j := 3) hw rfl rfl
  obtain ⟨a, e0, _, w0⟩ := DataW.trod_int Try.underlying3 h0
  obtain ⟨b, e1, _, w1⟩ := DataW.trod_int Try.underlying3 h1
  obtain ⟨c, e2, _, w2⟩ := DataW.trod_int Try.underlying22 h2
  obtain ⟨l, ⟨A, cap, e3, hl, hc⟩, ho⟩ := opensEntries H enc w base n held _ _ h3 hw3
  simp only [List.cons.injEq, and_true] at e0 e1 e2 e3
  subst e0 e1 e2 e3
  exact ⟨a, b, c, A, cap, l, rfl, hl, hc, okArg_row ho, w0, w1, w2⟩
end Go.Proofs.Ythnpjjpdlihepaa.F06
end
section
namespace Go.Proofs.Ythnpjjpdlihepaa.F06.XF
open Go Go.RowKit Go.Proofs.YthnpjjpdlihepaaW.PrintWords Go.Proofs.YthnpjjpdlihepaaW.PrintLast Go.Proofs.YthnpjjpdlihepaaW.PrintMore Go.Proofs.Ythnpjjpdlihepaa.Given Go.Proofs.Ythnpjjpdlihepaa.M Go.Proofs.Ythnpjjpdlihepaa.Mont Go.Proofs.Ythnpjjpdlihepaa.XS Go.Proofs.Ythnpjjpdlihepaa.XT Go.Proofs.Ythnpjjpdlihepaa.XR Go.Proofs.Ythnpjjpdlihepaa.XF
section
variable {a b c : Int} {A : Option Addr} {cap : Nat} {l : List RE} {x y : Int} {W : World} (hc : l.length ≤ cap) (hr : Kd.C k52 W A l.length l) (ho : okRow l)
include hc hr ho
theorem makes_walk (hx : (Lit.int .i64 x).wf = true) (hy : (Lit.int .u64 y).wf = true) : Calls Try.prog 11 #[.agg #[.int .i64 a, .int .i64 b, .int .u64 c, .slice A l.length cap], .int .i64 x, .int .u64 y] W fun e w' => e = .returned (.bool true) ∧ Below W.heap.size W w' := by
  obtain ⟨k, hk⟩ := Ev.rounds (makes_ev ho a b c (wf_I hx) (wf_U hy))
  exact epicyclelaw06_FieldMakes.calls k a b c A cap l x y W hr hc hk
end
end Go.Proofs.Ythnpjjpdlihepaa.F06.XF
end
