/- Layer 19 (cache): a script handed in as an argument. -/
import Derived.Test.YtlpbfhbfaphicaaLstw19
import Derived.Test.YtlpbfhbfaphicaaOpens
namespace Go.Proofs.Ytlpbfhbfaphicaa.C19
open Go Go.RowKit Go.Proofs.YtlpbfhbfaphicaaW.PrintWords Go.Proofs.YtlpbfhbfaphicaaW.PrintLast Go.Proofs.YtlpbfhbfaphicaaW.PrintMore Go.Proofs.Ytlpbfhbfaphicaa.Opens Go.Proofs.Ytlpbfhbfaphicaa.XA

set_option linter.unusedVariables false
/-- A call: a value put by a key, or asked for. -/
structure C5 where
  put : Bool
  key : K3
  val : Int
instance : Inhabited K3 := ⟨⟨0, 0, 0⟩⟩
instance : Inhabited C5 := ⟨⟨false, ⟨0, 0, 0⟩, 0⟩⟩
def kC : Kd C5 := Kd.iso (Kd.pair Kd.bool (Kd.pair kk (Kd.int .i64))) (fun c : C5 => (c.put, c.key, c.val))
abbrev cc (c : C5) : List Value := [.bool c.put, .int .u64 c.key.f0, .int .i64 c.key.f1, .int .i64 c.key.f2, .int .i64 c.val]
abbrev cv (c : C5) : Value := .agg #[.bool c.put, .int .u64 c.key.f0, .int .i64 c.key.f1, .int .i64 c.key.f2, .int .i64 c.val]
theorem kC_open {w : World} {x : C5} {cs : List Value} (h : kC.K w x cs) : cs = cc x := by
  obtain ⟨_, _, rfl, rfl, ⟨_, _, rfl, s0, rfl⟩⟩ := h
  obtain rfl := k35_open s0
  exact rfl
theorem opens_bool {P : Program} {t : TypeId} (ht : P.underlying t = some .bool) : Opens P t Kd.bool (fun _ => True) := by
  intro H enc w base fuel held cs x h _
  obtain ⟨b, rfl, _⟩ := DataW.trod_bool ht h
  exact ⟨b, rfl, trivial⟩
theorem opens_key : Opens Try.prog 37 kk (fun x => (Lit.int .u64 x.f0).wf = true ∧ (Lit.int .i64 x.f1).wf = true ∧ (Lit.int .i64 x.f2).wf = true) :=
  opens_iso (fun x : K3 => (x.f0, x.f1, x.f2)) (fun a => ⟨a.1, a.2.1, a.2.2⟩) (fun _ => rfl)
    (opens_struct3 Try.underlying37 rfl rfl (by kernel_rfl) (by kernel_rfl) (by kernel_rfl) (opens_int Try.underlying32) (opens_int Try.underlying3) (opens_int Try.underlying3))
theorem opens_call : Opens Try.prog 39 kC (fun c => True ∧ ((Lit.int .u64 c.key.f0).wf = true ∧ (Lit.int .i64 c.key.f1).wf = true ∧ (Lit.int .i64 c.key.f2).wf = true) ∧ (Lit.int .i64 c.val).wf = true) :=
  opens_iso (fun c : C5 => (c.put, c.key, c.val)) (fun a => ⟨a.1, a.2.1, a.2.2⟩) (fun _ => rfl)
    (opens_struct3 Try.underlying39 rfl rfl (by kernel_rfl) (by kernel_rfl) (by kernel_rfl) (opens_bool Try.underlying4) opens_key (opens_int Try.underlying3))
def okCalls (l : List C5) : Prop := (∀ c ∈ l, True ∧ ((Lit.int .u64 c.key.f0).wf = true ∧ (Lit.int .i64 c.key.f1).wf = true ∧ (Lit.int .i64 c.key.f2).wf = true) ∧ (Lit.int .i64 c.val).wf = true) ∧ l.length * Try.prog.bytesOf 39 ≤ reachBytes
theorem opens_calls : Opens Try.prog 29 (Kd.slice 39 kC) okCalls := opens_slice Try.underlying29 (by kernel_rfl) opens_call
theorem wfu_of {x : Int} (h : (Lit.int .u64 x).wf = true) : 0 ≤ x ∧ x ≤ 18446744073709551615 := by
  simp [Lit.wf, IntKind.min, IntKind.max, IntKind.bits, IntKind.signed] at h
  omega
theorem okCalls_wf {l : List C5} (h : okCalls l) : ∀ c ∈ l, Wk c.key ∧ W64 c.val := fun c hc => by
  obtain ⟨_, ⟨h0, h1, h2⟩, h3⟩ := h.1 c hc
  exact ⟨⟨wfu_of h0, W64.of_wf h1, W64.of_wf h2⟩, W64.of_wf h3⟩
end Go.Proofs.Ytlpbfhbfaphicaa.C19
