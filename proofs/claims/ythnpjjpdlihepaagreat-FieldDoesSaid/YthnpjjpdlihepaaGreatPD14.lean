/- Parts of this claim's texts, packed by wip/tools/prune.py: what the proof does not reach is left out. -/
import Derived.Test.YthnpjjpdlihepaaGreatPD13
import Derived.Lib.SmallJoins
section
namespace Go.Proofs.YthnpjjpdlihepaaGreat.F06
open Go Go.RowKit Go.Proofs.YthnpjjpdlihepaaGreatW.PrintWords Go.Proofs.YthnpjjpdlihepaaGreatW.PrintLast Go.Proofs.YthnpjjpdlihepaaGreatW.PrintMore Go.Proofs.YthnpjjpdlihepaaGreat.Given Go.Proofs.YthnpjjpdlihepaaGreat.M Go.Proofs.YthnpjjpdlihepaaGreat.Mont Go.Proofs.YthnpjjpdlihepaaGreat.XS Go.Proofs.YthnpjjpdlihepaaGreat.XT Go.Proofs.YthnpjjpdlihepaaGreat.XR Go.Proofs.YthnpjjpdlihepaaGreat.Opens
instance : Inhabited S83 := ⟨z83⟩
instance : Inhabited S71 := ⟨z71⟩
theorem opensPower : Opens Tryz.prog 83 k83 (fun x => (Lit.int .u64 x.f0).wf = true ∧ (Lit.int .i64 x.f1).wf = true) :=
  opens_iso (fun x : S83 => (x.f0, x.f1)) (fun a => ⟨a.1, a.2⟩) (fun _ => rfl)
    (opens_struct2 Tryz.underlying83 rfl rfl (by kernel_rfl) (by kernel_rfl) (opens_int Tryz.underlying22) (opens_int Tryz.underlying3))
theorem opensPowers : Opens Tryz.prog 69 (Kd.slice 83 k83) (fun l => (∀ x ∈ l, (Lit.int .u64 x.f0).wf = true ∧ (Lit.int .i64 x.f1).wf = true) ∧ l.length * Tryz.prog.bytesOf 83 ≤ reachBytes) :=
  opens_slice Tryz.underlying69 (by kernel_rfl) opensPower
theorem opensEntry : Opens Tryz.prog 71 k71 (fun x => (Lit.int .u64 x.f0).wf = true ∧ (Lit.int .u64 x.f1).wf = true ∧ ((∀ y ∈ x.f2, (Lit.int .u64 y.f0).wf = true ∧ (Lit.int .i64 y.f1).wf = true) ∧ x.f2.length * Tryz.prog.bytesOf 83 ≤ reachBytes)) :=
  opens_iso (fun x : S71 => (x.f0, x.f1, x.f2)) (fun a => ⟨a.1, a.2.1, a.2.2⟩) (fun _ => rfl)
    (opens_struct3 Tryz.underlying71 rfl rfl (by kernel_rfl) (by kernel_rfl) (by kernel_rfl) (opens_int Tryz.underlying22) (opens_int Tryz.underlying22) opensPowers)
def okArg (l : List S71) : Prop := (∀ x ∈ l, (Lit.int .u64 x.f0).wf = true ∧ (Lit.int .u64 x.f1).wf = true ∧ ((∀ y ∈ x.f2, (Lit.int .u64 y.f0).wf = true ∧ (Lit.int .i64 y.f1).wf = true) ∧ x.f2.length * Tryz.prog.bytesOf 83 ≤ reachBytes)) ∧ l.length * Tryz.prog.bytesOf 71 ≤ reachBytes
theorem opensEntries : Opens Tryz.prog 23 (Kd.slice 71 k71) okArg := opens_slice Tryz.underlying23 (by kernel_rfl) opensEntry
theorem okArg_row {l : List S71} (h : okArg l) : okRow l := by
  have b46 : Tryz.prog.bytesOf 71 = 40 := by kernel_rfl
  have b60 : Tryz.prog.bytesOf 83 = 16 := by kernel_rfl
  have hr : reachBytes = 140737488351232 := rfl
  unfold okArg at h
  rw [b46, b60, hr] at h
  refine ⟨⟨by omega, fun e he => by have := (h.1 e he).2.2.2; omega⟩, fun e he => ?_⟩
  obtain ⟨x, hx, rfl⟩ := List.mem_map.1 he
  obtain ⟨w0, w1, w2, _⟩ := h.1 x hx
  refine ⟨wf_U w0, wf_U w1, fun y hy => ?_⟩
  obtain ⟨z, hz, rfl⟩ := List.mem_map.1 hy
  exact ⟨wf_U (w2 z hz).1, wf_I (w2 z hz).2⟩
set_option maxRecDepth 100000 in
/-- A source: three numbers and a row. -/
theorem arg_source {H : Type} {enc : TypeId × Value → H} {w : World} {base b0 : Nat} {r : Reach} {held : Bool} {v : Value} {d : DataW H} {ps : List MemPlace}
    (hv : Value.okWide Tryz.prog w r b0 25 v) (hd : DataW.Trod enc Tryz.prog w base (fun _ => true) held 25 v d ps) (hw : (d.weights Tryz.prog 25).all (· ≤ reachBytes) = true) :
    ∃ (a b c : Int) (A : Option Addr) (cap : Nat) (l : List S71), v = .agg #[.int .i64 a, .int .i64 b, .int .u64 c, .slice A l.length cap] ∧ l.length ≤ cap ∧ Kd.C k71 w A l.length l ∧ okRow l ∧ (Lit.int .i64 a).wf = true ∧ (Lit.int .i64 b).wf = true ∧ (Lit.int .u64 c).wf = true := by
  obtain ⟨v0, v1, v2, v3, y0, y1, y2, y3, n, rfl, rfl, rfl, h0, h1, h2, h3⟩ := Joins.open_agg4 Tryz.underlying25 (by kernel_rfl) (by kernel_rfl) hv hd
  rw [DataW.weights, Tryz.underlying25] at hw
  have hw3 := each_weights (j := 3) hw rfl rfl
  obtain ⟨a, e0, _, w0⟩ := DataW.trod_int Tryz.underlying3 h0
  obtain ⟨b, e1, _, w1⟩ := DataW.trod_int Tryz.underlying3 h1
  obtain ⟨c, e2, _, w2⟩ := DataW.trod_int Tryz.underlying22 h2
  obtain ⟨l, ⟨A, cap, e3, hl, hc⟩, ho⟩ := opensEntries H enc w base n held _ _ h3 hw3
  simp only [List.cons.injEq, and_true] at e0 e1 e2 e3
  subst e0 e1 e2 e3
  exact ⟨a, b, c, A, cap, l, rfl, hl, hc, okArg_row ho, w0, w1, w2⟩
end Go.Proofs.YthnpjjpdlihepaaGreat.F06
end
section
namespace Go.Proofs.YthnpjjpdlihepaaGreat.F06.XD
open Go Go.RowKit Go.Proofs.YthnpjjpdlihepaaGreatW.PrintWords Go.Proofs.YthnpjjpdlihepaaGreatW.PrintLast Go.Proofs.YthnpjjpdlihepaaGreatW.PrintMore Go.Proofs.YthnpjjpdlihepaaGreat.Given Go.Proofs.YthnpjjpdlihepaaGreat.M Go.Proofs.YthnpjjpdlihepaaGreat.Mont Go.Proofs.YthnpjjpdlihepaaGreat.XS Go.Proofs.YthnpjjpdlihepaaGreat.XT Go.Proofs.YthnpjjpdlihepaaGreat.XR Go.Proofs.YthnpjjpdlihepaaGreat.Num Go.Proofs.YthnpjjpdlihepaaGreat.XK Go.Proofs.YthnpjjpdlihepaaGreat.XD
theorem alive_ev : Ev (fun k => epicyclelaw06_alive.f k) true := by
  obtain ⟨F, E, e1, e2, hg⟩ := small17
  have hr : rootI F 4 = 13 := by unfold rootI; rw [e1, e2]; rfl
  have R := Root_at F (n := 4) (by decide) (by decide) (by rw [e1]; rfl)
  have M1 : field_Field_Mul.f [F] 13 13 = some 16 := by rw [field_Field_Mul.at_ ⟨by unfold U; omega, by unfold U; omega⟩, e1]; rfl
  have G1 : field_Field_G.f [F] = some 3 := by unfold field_Field_G.f; rw [← e2]; rfl
  rw [hr] at R
  exact Ev.congr (fun k => rfl) (Ev.bind E (evB R (evP rfl (evP rfl (evB G1 (evP rfl (evP rfl (evB M1 (Ev.now _)))))))))
theorem does_j0 {F : Fld} (hg : GoodFld F) {x y z : Int} (hx : U x) (hy : U y) (hz : U z) : Ev (fun k => epicyclelaw06_FieldDoes.j0 k x y z [F] F.p (invF F.p x)) true := by
  have hne := hg.ne
  have uP := hg.uP
  have Up : Ev (fun k => epicycleref03_Up.f k x F.p) (mIn F.p x) := ref03_Up_ev hg.m hx
  refine stepE ⟨_, fun k => by simp only [epicyclelaw06_FieldDoes.j0]; rfl, ?_⟩
  refine evB (field_Field_Add.at_ (F := F) (l := []) ⟨hx, hy⟩) (evB (ref02_Add_eq hx hy uP hne) (evP rfl ?_))
  refine evB (field_Field_Sub.at_ (F := F) (l := []) ⟨hx, hy⟩) (evB (ref02_Neg_eq hy uP hne) (evB (ref02_Add_eq hx (hg.uE (-y)) uP hne) (evP ?_ ?_)))
  · rw [Int.add_emod_emod, ← Int.sub_eq_add_neg]
  refine evB (field_Field_Neg.at_ (F := F) (l := []) hx) (evB (ref02_Neg_eq hx uP hne) (evP rfl ?_))
  refine evB (field_Field_Mul.at_ (F := F) (l := []) ⟨hx, hy⟩) (Ev.bind (ref02_Mul_ev hx hy uP hne) (evP rfl ?_))
  refine evB (field_Field_Pow.at_ (F := F) (l := []) ⟨hx, hz⟩) (Ev.bind (ref02_Pow_ev hx hz uP hne) (evP rfl ?_))
  refine evB (field_Field_Inv.at_ (F := F) (l := []) hx) (evP rfl ?_)
  refine evB (field_Field_Lift.at_ (F := F) (l := []) hx) (Ev.bind Up (evP rfl ?_))
  refine evB (field_Field_Lift.at_ (F := F) (l := []) hx) (evB (field_Field_Times.at_ (F := F) (l := []) ⟨show U (mIn F.p x) from hg.uE _, hy⟩) (Ev.bind (ref02_Mul_ev hx hy uP hne) ?_))
  have : (mMul F.p (mIn F.p x) y == x * y % F.p) = true := beq_iff_eq.2 (mul_in hg.m x y)
  rw [this]
  exact Ev.now _
theorem does_ev {L : List RE} (hL : okRow L) (a b c : Int) {x y z : Int} (hx : U x) (hy : U y) (hz : U z) : Ev (fun k => epicyclelaw06_FieldDoes.f k a b c L x y z) true := by
  refine Ev.congr (fun k => rfl) (Ev.bind alive_ev (evP rfl ?_))
  rcases made_ev hL a b c with M | ⟨F, M, hg⟩
  · exact Ev.bind M (evP rfl (evP rfl (Ev.now _)))
  have hlo := hg.lo
  have hhi := hg.hi
  have J := does_j0 hg hx hy hz
  refine Ev.bind M (evN hg.ne ?_)
  by_cases h0 : x % F.p = 0
  · rw [hg.inv0 h0] at J
    exact evP (by rw [tmod_pos hx.1]; exact h0) J
  · refine evN (by rw [tmod_pos hx.1]; exact h0) ?_
    have w2 : IntKind.u64.wrap (F.p - 2) = F.p - 2 := wu64_id _ (by omega) (by omega)
    have P := ref02_Pow_ev hx (e := F.p - 2) (by unfold U; omega) hg.uP hg.ne
    rw [← (hg.inv h0).1] at P
    refine Ev.bind (Ev.congr (fun k => ?_) P) J
    unfold epicycleref06_Inv.f
    rw [w2]
    cases epicycleref02_Pow.f k x (F.p - 2) F.p <;> rfl
section
variable {a b c : Int} {A : Option Addr} {cap : Nat} {l : List RE} {x y z : Int} {W : World}
def Says (f : Nat) (a b c : Int) (A : Option Addr) (cap : Nat) (l : List RE) (more : List Value) (W : World) : Prop := Calls Tryz.prog f (.agg #[.int .i64 a, .int .i64 b, .int .u64 c, .slice A l.length cap] :: more).toArray W fun e w' => e = .returned (.bool true) ∧ Below W.heap.size W w'
theorem does_walk (hc : l.length ≤ cap) (hr : Kd.C k71 W A l.length l) (ho : okRow l) (hx : (Lit.int .u64 x).wf = true) (hy : (Lit.int .u64 y).wf = true) (hz : (Lit.int .u64 z).wf = true) : Says 3 a b c A cap l [.int .u64 x, .int .u64 y, .int .u64 z] W := by
  obtain ⟨k, hk⟩ := Ev.rounds (does_ev ho a b c (wf_U hx) (wf_U hy) (wf_U hz))
  exact epicyclelaw06_FieldDoes.calls k a b c A cap l x y z W hr hc hk
end
end Go.Proofs.YthnpjjpdlihepaaGreat.F06.XD
end
