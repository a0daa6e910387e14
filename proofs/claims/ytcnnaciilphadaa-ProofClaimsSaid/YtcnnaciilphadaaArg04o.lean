/- Layer 4: a row of the document's entries, handed in as an argument. -/
import Derived.Test.YtcnnaciilphadaaEv04r
import Derived.Test.YtcnnaciilphadaaOpens
namespace Go.Proofs.Ytcnnaciilphadaa.XP
open Go Go.RowKit Go.Proofs.YtcnnaciilphadaaW.PrintWords Go.Proofs.YtcnnaciilphadaaW.PrintLast Go.Proofs.YtcnnaciilphadaaW.PrintMore Go.Proofs.Ytcnnaciilphadaa.Given Go.Proofs.Ytcnnaciilphadaa.Given04 Go.Proofs.Ytcnnaciilphadaa.M Go.Proofs.Ytcnnaciilphadaa.Mont Go.Proofs.Ytcnnaciilphadaa.Opens

instance : Inhabited S60 := ⟨z60⟩
instance : Inhabited S46 := ⟨z46⟩

theorem opens60 : Opens Try.prog 60 k60 (fun x => (Lit.int .u64 x.f0).wf = true ∧ (Lit.int .i64 x.f1).wf = true) :=
  opens_iso (fun x : S60 => (x.f0, x.f1)) (fun a => ⟨a.1, a.2⟩) (fun _ => rfl)
    (opens_struct2 Try.underlying60 rfl rfl (by kernel_rfl) (by kernel_rfl) (opens_int Try.underlying22) (opens_int Try.underlying3))

theorem opens44 : Opens Try.prog 44 (Kd.slice 60 k60) (fun l => (∀ x ∈ l, (Lit.int .u64 x.f0).wf = true ∧ (Lit.int .i64 x.f1).wf = true) ∧ l.length * Try.prog.bytesOf 60 ≤ reachBytes) :=
  opens_slice Try.underlying44 (by kernel_rfl) opens60

theorem opens46 : Opens Try.prog 46 k46 (fun x => (Lit.int .u64 x.f0).wf = true ∧ (Lit.int .u64 x.f1).wf = true ∧ ((∀ y ∈ x.f2, (Lit.int .u64 y.f0).wf = true ∧ (Lit.int .i64 y.f1).wf = true) ∧ x.f2.length * Try.prog.bytesOf 60 ≤ reachBytes)) :=
  opens_iso (fun x : S46 => (x.f0, x.f1, x.f2)) (fun a => ⟨a.1, a.2.1, a.2.2⟩) (fun _ => rfl)
    (opens_struct3 Try.underlying46 rfl rfl (by kernel_rfl) (by kernel_rfl) (by kernel_rfl) (opens_int Try.underlying22) (opens_int Try.underlying22) opens44)

def okArg (l : List S46) : Prop := (∀ x ∈ l, (Lit.int .u64 x.f0).wf = true ∧ (Lit.int .u64 x.f1).wf = true ∧ ((∀ y ∈ x.f2, (Lit.int .u64 y.f0).wf = true ∧ (Lit.int .i64 y.f1).wf = true) ∧ x.f2.length * Try.prog.bytesOf 60 ≤ reachBytes)) ∧ l.length * Try.prog.bytesOf 46 ≤ reachBytes

theorem opens36 : Opens Try.prog 36 (Kd.slice 46 k46) okArg := opens_slice Try.underlying36 (by kernel_rfl) opens46

theorem okArg_row {l : List S46} (h : okArg l) : okRow l := by
  have b46 : Try.prog.bytesOf 46 = 40 := by kernel_rfl
  have b60 : Try.prog.bytesOf 60 = 16 := by kernel_rfl
  have hr : reachBytes = 140737488351232 := rfl
  unfold okArg at h
  rw [b46, b60, hr] at h
  refine ⟨⟨by omega, fun e he => by have := (h.1 e he).2.2.2; omega⟩, fun e he => ?_⟩
  obtain ⟨x, hx, rfl⟩ := List.mem_map.1 he
  obtain ⟨w0, w1, w2, _⟩ := h.1 x hx
  refine ⟨wf_U w0, wf_U w1, fun y hy => ?_⟩
  obtain ⟨z, hz, rfl⟩ := List.mem_map.1 hy
  exact ⟨wf_U (w2 z hz).1, wf_I (w2 z hz).2⟩

end Go.Proofs.Ytcnnaciilphadaa.XP
