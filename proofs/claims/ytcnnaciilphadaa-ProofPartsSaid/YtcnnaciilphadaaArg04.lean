/- Layer 4: a row of the document's entries, handed in as an argument. -/
import Derived.Test.YtcnnaciilphadaaLaws04
import Derived.Test.YtcnnaciilphadaaOpens
namespace Go.Proofs.Ytcnnaciilphadaa.XP
open Go Go.RowKit Go.Proofs.YtcnnaciilphadaaW.PrintWords Go.Proofs.YtcnnaciilphadaaW.PrintLast Go.Proofs.YtcnnaciilphadaaW.PrintMore Go.Proofs.Ytcnnaciilphadaa.Given Go.Proofs.Ytcnnaciilphadaa.Given04 Go.Proofs.Ytcnnaciilphadaa.M Go.Proofs.Ytcnnaciilphadaa.Mont Go.Proofs.Ytcnnaciilphadaa.Opens

instance : Inhabited S60 := ⟨z60⟩
instance : Inhabited S46 := ⟨z46⟩

theorem opens60 : Opens Try.prog 60 k60 (fun x => (Lit.int .u64 x.f0).wf = true ∧ (Lit.int .i64 x.f1).wf = true) :=
  opens_iso (fun x : S60 => (x.f0, x.f1)) (fun a => ⟨a.1, a.2⟩) (fun _ => rfl)
    (opens_struct2 Try.underlying60 rfl rfl (by kernel_rfl) (by kernel_rfl) (opens_int Try.underlying22) (opens_int Try.underlying3))

theorem opens44 : Opens Try.prog 44 (Kd.slice 60 k60) (fun l => (∀ x ∈ l, (Lit.int .u64 x.f0).wf = true ∧ (Lit.int .i64 x.f1).wf = true) ∧ l.length * Try.prog.bytesOf 60 ≤ reachBytes) :=
  opens_slice Try.underlying44 (by kernel_rfl) opens60

theorem opens46 : Opens Try.prog 46 k46 (fun x => (Lit.int .u64 x.f0).wf = true ∧ (Lit.int .u64 x.f1).wf = true ∧ ((∀ y ∈ x.f2, (Lit.int .u64 y.f0).wf = true ∧ (Lit.int .i64 y.f1).wf = true) ∧ x.f2.length * Try.prog.bytesOf 60 ≤ reachBytes)) :=
  opens_iso (fun x : S46 => (x.f0, x.f1, x.f2)) (fun a => ⟨a.1, a.2.1, a.2.2⟩) (fun _ => rfl)
    (opens_struct3 Try.underlying46 rfl rfl (by kernel_rfl) (by kernel_rfl) (by kernel_rfl) (opens_int Try.underlying22) (opens_int Try.underlying22) opens44)

def okArg (l : List S46) : Prop := (∀ x ∈ l, (Lit.int .u64 x.f0).wf = true ∧ (Lit.int .u64 x.f1).wf = true ∧ ((∀ y ∈ x.f2, (Lit.int .u64 y.f0).wf = true ∧ (Lit.int .i64 y.f1).wf = true) ∧ x.f2.length * Try.prog.bytesOf 60 ≤ reachBytes)) ∧ l.length * Try.prog.bytesOf 46 ≤ reachBytes

theorem opens36 : Opens Try.prog 36 (Kd.slice 46 k46) okArg := opens_slice Try.underlying36 (by kernel_rfl) opens46

theorem okArg_row {l : List S46} (h : okArg l) : okRow l := by
  have b46 : Try.prog.bytesOf 46 = 40 := by kernel_rfl
  have b60 : Try.prog.bytesOf 60 = 16 := by kernel_rfl
  have hr : reachBytes = 140737488351232 := rfl
  unfold okArg at h
  rw [b46, b60, hr] at h
  refine ⟨⟨by omega, fun e he => by have := (h.1 e he).2.2.2; omega⟩, fun e he => ?_⟩
  obtain ⟨x, hx, rfl⟩ := List.mem_map.1 he
  obtain ⟨w0, w1, w2, _⟩ := h.1 x hx
  refine ⟨wf_U w0, wf_U w1, fun y hy => ?_⟩
  obtain ⟨z, hz, rfl⟩ := List.mem_map.1 hy
  exact ⟨wf_U (w2 z hz).1, wf_I (w2 z hz).2⟩

theorem primes_walk (A : Option Addr) (c : Nat) (l : List S46) (a d : Int) (w : World) (hc : l.length ≤ c) (hr : Kd.C k46 w A l.length l) (ho : okArg l) (_wa : (Lit.int .i64 a).wf = true) (_wd : (Lit.int .u64 d).wf = true) :
    Calls Try.prog 9 #[.slice A l.length c, .int .i64 a, .int .u64 d] w fun e w' => e = .returned (.bool true) ∧ Below w.heap.size w w' := by
  obtain ⟨k, hk⟩ := Ev.rounds (primes_ev (okArg_row ho) a d)
  exact epicyclelaw04_ProofPrimes.calls k A c l a d w hr hc hk
theorem order_walk (A : Option Addr) (c : Nat) (l : List S46) (a x : Int) (w : World) (hc : l.length ≤ c) (hr : Kd.C k46 w A l.length l) (ho : okArg l) (_wa : (Lit.int .i64 a).wf = true) (wx : (Lit.int .u64 x).wf = true) :
    Calls Try.prog 10 #[.slice A l.length c, .int .i64 a, .int .u64 x] w fun e w' => e = .returned (.bool true) ∧ Below w.heap.size w w' := by
  obtain ⟨k, hk⟩ := Ev.rounds (order_ev (okArg_row ho) a x (wf_U wx))
  exact epicyclelaw04_ProofOrder.calls k A c l a x w hr hc hk
theorem field_walk (A : Option Addr) (c : Nat) (l : List S46) (i a b : Int) (w : World) (hc : l.length ≤ c) (hr : Kd.C k46 w A l.length l) (ho : okArg l) (_wi : (Lit.int .i64 i).wf = true) (wa : (Lit.int .u64 a).wf = true) (wb : (Lit.int .u64 b).wf = true) :
    Calls Try.prog 11 #[.slice A l.length c, .int .i64 i, .int .u64 a, .int .u64 b] w fun e w' => e = .returned (.bool true) ∧ Below w.heap.size w w' := by
  obtain ⟨k, hk⟩ := Ev.rounds (field_ev (okArg_row ho) i a b (wf_U wa) (wf_U wb))
  exact epicyclelaw04_ProofField.calls k A c l i a b w hr hc hk
theorem parts_walk (A : Option Addr) (c : Nat) (l : List S46) (n : Int) (w : World) (hc : l.length ≤ c) (hr : Kd.C k46 w A l.length l) (ho : okArg l) (wn : (Lit.int .i64 n).wf = true) :
    Calls Try.prog 12 #[.slice A l.length c, .int .i64 n] w fun e w' => e = .returned (.bool true) ∧ Below w.heap.size w w' := by
  obtain ⟨k, hk⟩ := Ev.rounds (parts_ev (okArg_row ho) n (wf_I wn))
  exact epicyclelaw04_ProofParts.calls k A c l n w hr hc hk

end Go.Proofs.Ytcnnaciilphadaa.XP
