/- Parts of this claim's texts, packed by wip/tools/prune.py: what the proof does not reach is left out. -/
import Derived.Test.YthnpjjpdlihepaaPH13
import Derived.Lib.SmallJoins
section
namespace Go.Proofs.Ythnpjjpdlihepaa.F06
open Go Go.RowKit Go.Proofs.YthnpjjpdlihepaaW.PrintWords Go.Proofs.YthnpjjpdlihepaaW.PrintLast Go.Proofs.YthnpjjpdlihepaaW.PrintMore Go.Proofs.Ythnpjjpdlihepaa.Given Go.Proofs.Ythnpjjpdlihepaa.M Go.Proofs.Ythnpjjpdlihepaa.Mont Go.Proofs.Ythnpjjpdlihepaa.XS Go.Proofs.Ythnpjjpdlihepaa.XT Go.Proofs.Ythnpjjpdlihepaa.XR Go.Proofs.Ythnpjjpdlihepaa.Opens
instance : Inhabited S89 := ⟨z89⟩
instance : Inhabited S52 := ⟨z52⟩
theorem opensPower : Opens Try.prog 89 k89 (fun x => (Lit.int .u64 x.f0).wf = true ∧ (Lit.int .i64 x.f1).wf = true) :=
  opens_iso (fun x : S89 => (x.f0, x.f1)) (fun a => ⟨a.1, a.2⟩) (fun _ => rfl)
    (opens_struct2 Try.underlying89 rfl rfl (by kernel_rfl) (by kernel_rfl) (opens_int Try.underlying22) (opens_int Try.underlying3))
theorem opensPowers : Opens Try.prog 50 (Kd.slice 89 k89) (fun l => (∀ x ∈ l, (Lit.int .u64 x.f0).wf = true ∧ (Lit.int .i64 x.f1).wf = true) ∧ l.length * Try.prog.bytesOf 89 ≤ reachBytes) :=
  opens_slice Try.underlying50 (by kernel_rfl) opensPower
theorem opensEntry : Opens Try.prog 52 k52 (fun x => (Lit.int .u64 x.f0).wf = true ∧ (Lit.int .u64 x.f1).wf = true ∧ ((∀ y ∈ x.f2, (Lit.int .u64 y.f0).wf = true ∧ (Lit.int .i64 y.f1).wf = true) ∧ x.f2.length * Try.prog.bytesOf 89 ≤ reachBytes)) :=
  opens_iso (fun x : S52 => (x.f0, x.f1, x.f2)) (fun a => ⟨a.1, a.2.1, a.2.2⟩) (fun _ => rfl)
    (opens_struct3 Try.underlying52 rfl rfl (by kernel_rfl) (by kernel_rfl) (by kernel_rfl) (opens_int Try.underlying22) (opens_int Try.underlying22) opensPowers)
def okArg (l : List S52) : Prop := (∀ x ∈ l, (Lit.int .u64 x.f0).wf = true ∧ (Lit.int .u64 x.f1).wf = true ∧ ((∀ y ∈ x.f2, (Lit.int .u64 y.f0).wf = true ∧ (Lit.int .i64 y.f1).wf = true) ∧ x.f2.length * Try.prog.bytesOf 89 ≤ reachBytes)) ∧ l.length * Try.prog.bytesOf 52 ≤ reachBytes
theorem opensEntries : Opens Try.prog 23 (Kd.slice 52 k52) okArg := opens_slice Try.underlying23 (by kernel_rfl) opensEntry
theorem okArg_row {l : List S52} (h : okArg l) : okRow l := by
  have b46 : Try.prog.bytesOf 52 = 40 := by kernel_rfl
  have b60 : Try.prog.bytesOf 89 = 16 := by kernel_rfl
  have hr : reachBytes = 140737488351232 := rfl
  unfold okArg at h
  rw [b46, b60, hr] at h
  refine ⟨⟨by omega, fun e he => by have := (h.1 e he).2.2.2; omega⟩, fun e he => ?_⟩
  obtain ⟨x, hx, rfl⟩ := List.mem_map.1 he
  obtain ⟨w0, w1, w2, _⟩ := h.1 x hx
  refine ⟨wf_U w0, wf_U w1, fun y hy => ?_⟩
  obtain ⟨z, hz, rfl⟩ := List.mem_map.1 hy
  exact ⟨wf_U (w2 z hz).1, wf_I (w2 z hz).2⟩
set_option maxRecDepth 100000 in
/-- A source: three numbers and a row. -/
theorem arg_source {H : Type} {enc : TypeId × Value → H} {w : World} {base b0 : Nat} {r : Reach} {held : Bool} {v : Value} {d : DataW H} {ps : List MemPlace}
    (hv : Value.okWide Try.prog w r b0 25 v) (hd : DataW.Trod enc Try.prog w base (fun _ => true) held 25 v d ps) (hw : (d.weights Try.prog 25).all (· ≤ reachBytes) = true) :
    ∃ (a b c : Int) (A : Option Addr) (cap : Nat) (l : List S52), v = .agg #[.int .i64 a, .int .i64 b, .int .u64 c, .slice A l.length cap] ∧ l.length ≤ cap ∧ Kd.C k52 w A l.length l ∧ okRow l ∧ (Lit.int .i64 a).wf = true ∧ (Lit.int .i64 b).wf = true ∧ (Lit.int .u64 c).wf = true := by
  obtain ⟨v0, v1, v2, v3, y0, y1, y2, y3, n, rfl, rfl, rfl, h0, h1, h2, h3⟩ := Joins.open_agg4 Try.underlying25 (by kernel_rfl) (by kernel_rfl) hv hd
  rw [DataW.weights, Try.underlying25] at hw
  have hw3 := each_weights (j := 3) hw rfl rfl
  obtain ⟨a, e0, _, w0⟩ := DataW.trod_int Try.underlying3 h0
  obtain ⟨b, e1, _, w1⟩ := DataW.trod_int Try.underlying3 h1
  obtain ⟨c, e2, _, w2⟩ := DataW.trod_int Try.underlying22 h2
  obtain ⟨l, ⟨A, cap, e3, hl, hc⟩, ho⟩ := opensEntries H enc w base n held _ _ h3 hw3
  simp only [List.cons.injEq, and_true] at e0 e1 e2 e3
  subst e0 e1 e2 e3
  exact ⟨a, b, c, A, cap, l, rfl, hl, hc, okArg_row ho, w0, w1, w2⟩
end Go.Proofs.Ythnpjjpdlihepaa.F06
end
section
namespace Go.Proofs.Ythnpjjpdlihepaa.F06.XW
open Go Go.RowKit Go.Proofs.YthnpjjpdlihepaaW.PrintWords Go.Proofs.YthnpjjpdlihepaaW.PrintLast Go.Proofs.YthnpjjpdlihepaaW.PrintMore Go.Proofs.Ythnpjjpdlihepaa.Given Go.Proofs.Ythnpjjpdlihepaa.M Go.Proofs.Ythnpjjpdlihepaa.Mont Go.Proofs.Ythnpjjpdlihepaa.XS Go.Proofs.Ythnpjjpdlihepaa.XT Go.Proofs.Ythnpjjpdlihepaa.XR Go.Proofs.Ythnpjjpdlihepaa.Num Go.Proofs.Ythnpjjpdlihepaa.XK Go.Proofs.Ythnpjjpdlihepaa.T10 Go.Proofs.Ythnpjjpdlihepaa.XW Go.Proofs.Ythnpjjpdlihepaa.Opens
theorem powL_U {F : Fld} (hg : GoodFld F) (w : Int) (n : Nat) : ∀ x ∈ powL F.p w n, U x := fun x hx => by
  unfold powL at hx
  obtain ⟨i, _, rfl⟩ := List.mem_map.1 hx
  exact hg.uE _
theorem alive_ev : Ev (fun k => epicyclelaw10_alive.f k) true := by
  obtain ⟨F, E, e1, e2, hg⟩ := small17
  have hd : (F.p - 1) % 4 = 0 := by rw [e1]; rfl
  have hr : trootI F 4 false = 13 := by show rootI F 4 = 13; unfold rootI; rw [e1, e2]; rfl
  have T := table_ev hg (n := 4) (by decide) (by decide) hd false
  obtain ⟨b, V, hb⟩ := verify_ev hg (powL_U hg (trootI F 4 false) (4 : Int).toNat)
  have rg := trootI_range hg 4 false
  have hbt : b = true := hb.2 (powL_tab hg.lo (by decide) (by decide) rg.1 rg.2 fun k => troot_ord hg (by decide) hd false k)
  subst hbt
  have l4 : ((powL F.p (trootI F 4 false) (4 : Int).toNat).length : Int) = 4 := by rw [powL_len]; rfl
  have r1 : rd (powL F.p (trootI F 4 false) (4 : Int).toNat) 1 = 13 := by
    have := rd_powL (p := F.p) (w := trootI F 4 false) (n := (4 : Int).toNat) (i := 1) (by decide)
    rw [hr, e1] at this ⊢
    exact this
  have r3 : rd (powL F.p (trootI F 4 false) (4 : Int).toNat) 3 = 4 := by
    have := rd_powL (p := F.p) (w := trootI F 4 false) (n := (4 : Int).toNat) (i := 3) (by decide)
    rw [hr, e1] at this ⊢
    exact this
  exact Ev.congr (fun k => rfl) (Ev.bind E (Ev.bind T (evP rfl (evP l4 (evP (by rw [l4]; decide) (evP r1 (evP (by rw [l4]; decide) (evP r3 (Ev.bind V (Ev.now _))))))))))
theorem root_half {F : Fld} (hg : GoodFld F) {n : Int} (hn : 0 < n) (hd : (F.p - 1) % (2 * n) = 0) : rootI F (2 * n) * rootI F (2 * n) % F.p = rootI F n ∧ (F.p - 1) % n = 0 ∧ rootI F (2 * n) ^ n.toNat % F.p = F.p - 1 := by
  have hlo := hg.lo
  obtain ⟨q, hq⟩ := Int.dvd_of_emod_eq_zero hd
  have hdn : (F.p - 1) % n = 0 := Int.emod_eq_zero_of_dvd ⟨2 * q, by rw [hq, Int.mul_comm 2 n, Int.mul_assoc]⟩
  have e1 : (F.p - 1) / (2 * n) = q := by rw [hq, Int.mul_ediv_cancel_left _ (by omega)]
  have e2 : (F.p - 1) / n = 2 * q := by rw [hq, Int.mul_comm 2 n, Int.mul_assoc, Int.mul_ediv_cancel_left _ (by omega)]
  have e3 : (F.p - 1) / 2 = n * q := by rw [hq, Int.mul_assoc, Int.mul_ediv_cancel_left _ (by omega)]
  have hq0 : 0 ≤ q := by rw [← e1]; exact Int.ediv_nonneg (by omega) (by omega)
  refine ⟨?_, hdn, ?_⟩
  · unfold rootI
    rw [e1, e2, emod_mul_l, emod_mul_r, ← Int.pow_add]
    refine congrArg (fun e => F.g ^ e % F.p) ?_
    omega
  · rw [rootI_pow, e1, ← hg.half, e3]
    refine congrArg (fun e => F.g ^ e % F.p) ?_
    obtain ⟨n, rfl⟩ : ∃ x : Nat, n = x := ⟨n.toNat, by omega⟩
    obtain ⟨q, rfl⟩ : ∃ x : Nat, q = x := ⟨q.toNat, by omega⟩
    rw [← Int.natCast_mul, Int.toNat_natCast, Int.toNat_natCast, Int.toNat_natCast, Nat.mul_comm]
theorem halves_l0 {F : Fld} (hg : GoodFld F) {n : Nat} (h3 : n ≤ 150) {w v : Int} {T R : List Int} (lT : T.length = 2 * n) (lR : R.length = n) (rT : ∀ j, j < 2 * n → rd T (j : Int) = w ^ j % F.p) (rR : ∀ j, j < n → rd R (j : Int) = v ^ j % F.p) (hs : w * w % F.p = v) (hh : w ^ n % F.p = F.p - 1) (d : Nat) : ∀ i : Nat, i + d = n →
    Ev (fun k => epicyclelaw10_TwiddleHalves.l0 k (n : Int) F.p T R (n : Int) (i : Int)) true := by
  have HS := Aside0.mk hs
  have HH := Aside0.mk hh
  clear hs hh
  induction d with
  | zero =>
    intro i hi
    exact stepE ⟨_, fun k => by simp only [epicyclelaw10_TwiddleHalves.l0]; rw [if_neg (by omega)], Ev.now _⟩
  | succ d ih =>
    intro i hi
    have J : Ev (fun k => epicyclelaw10_TwiddleHalves.j3 k (n : Int) F.p T R (n : Int) (i : Int) false) true :=
      stepE ⟨_, fun k => by simp only [epicyclelaw10_TwiddleHalves.j3]; rw [if_neg (by decide), wrap_succ (by omega)], ih (i + 1) (by omega)⟩
    have w1 : wrap64 (2 * (i : Int)) = ((2 * i : Nat) : Int) := by rw [w64_id _ (by omega) (by omega)]; omega
    have w2 : wrap64 ((i : Int) + (n : Int)) = ((i + n : Nat) : Int) := by rw [w64_id _ (by omega) (by omega)]; omega
    have q1 : (i : Int) < (n : Int) := by omega
    have q2 : (0 : Int) ≤ ((2 * i : Nat) : Int) := Int.natCast_nonneg _
    have q3 : ((2 * i : Nat) : Int) < (T.length : Int) := by omega
    have q4 : (0 : Int) ≤ (i : Int) := Int.natCast_nonneg _
    have q5 : (i : Int) < (R.length : Int) := by omega
    have q6 : (0 : Int) ≤ ((i + n : Nat) : Int) := Int.natCast_nonneg _
    have q7 : ((i + n : Nat) : Int) < (T.length : Int) := by omega
    have q8 : (i : Int) < (T.length : Int) := by omega
    have r1 := rT (2 * i) (by omega)
    have r2 := rR i (by omega)
    have r3 := rT (i + n) (by omega)
    have r4 := rT i (by omega)
    have ea : rd T ((2 * i : Nat) : Int) = rd R (i : Int) := by
      rw [r1, r2, ← HS.out, emod_pow, Int.mul_pow, ← Int.pow_add, Nat.two_mul]
    have Ng := ref02_Neg_eq (hg.uE (w ^ i)) hg.uP hg.ne
    have eb : rd T ((i + n : Nat) : Int) = (-(w ^ i % F.p)) % F.p := by
      rw [r3, Int.pow_add, ← emod_mul_r, HH.out]
      refine M.emod_of_dvd_sub ?_
      have := M.dvd_emod_sub (w ^ i) F.p
      generalize w ^ i = z at *
      rw [show z * (F.p - 1) - -(z % F.p) = z * F.p + (z % F.p - z) by rw [Int.mul_sub, Int.mul_one]; generalize z * F.p = A; generalize z % F.p = B; omega]
      exact Int.dvd_add (Int.dvd_mul_left _ _) this
    have ec : (rd T ((i + n : Nat) : Int) != (-(w ^ i % F.p)) % F.p) = false := bne_eq_false_iff_eq.2 eb
    rw [← r4] at Ng ec
    refine Ev.step (fun k => ?_) J
    simp only [epicyclelaw10_TwiddleHalves.l0]
    rw [w1, w2, if_pos q1, if_pos q2, if_pos q3, if_pos q4, if_pos q5, if_pos ea, if_pos q6, if_pos q7, if_pos q8, Ng, Option.bind_some, ec]
theorem halves_ev {L : List RE} (hL : okRow L) (a b c : Int) {n : Int} (hn : I64 n) : Ev (fun k => epicyclelaw10_TwiddleHalves.f k a b c L n) true := by
  refine Ev.congr (fun k => rfl) (Ev.bind alive_ev (evP rfl ?_))
  rcases made_ev hL a b c with M | ⟨F, M, hg⟩
  · exact Ev.bind M (evP rfl (evP rfl (Ev.now _)))
  have J : Ev (fun k => epicyclelaw10_TwiddleHalves.j0 k n [F] F.p true) true :=
    stepE ⟨_, fun k => by simp only [epicyclelaw10_TwiddleHalves.j0]; rw [if_pos trivial], Ev.now _⟩
  refine Ev.bind M (evN hg.ne ?_)
  by_cases h1 : n < 1
  · exact evP h1 J
  refine evN h1 ?_
  by_cases h2 : n > 150
  · exact evP h2 J
  refine evN h2 ?_
  have w : wrap64 (2 * n) = 2 * n := w64_id _ (by omega) (by omega)
  have D := Divides_at F (n := 2 * n) (by omega)
  rw [w]
  by_cases hd : (F.p - 1) % (2 * n) = 0
  · rw [decide_eq_true ⟨by omega, hd⟩] at D
    obtain ⟨_, hdn, _⟩ := root_half hg (n := n) (by omega) hd
    have T1 := table_ev hg (n := 2 * n) (by omega) (by omega) hd false
    have T2 := table_ev hg (n := n) (by omega) (by omega) hdn false
    obtain ⟨n, rfl⟩ : ∃ x : Nat, n = x := ⟨n.toNat, by omega⟩
    rw [show (2 * (n : Int)).toNat = 2 * n by omega] at T1
    rw [Int.toNat_natCast] at T2
    refine evB D (stepE ⟨_, fun k => by simp only [epicyclelaw10_TwiddleHalves.j0]; rw [if_neg (by decide), w], ?_⟩)
    refine Ev.bind T1 (Ev.bind T2 (evP rfl (evP rfl (evP (by rw [powL_len]; omega) ?_))))
    have e : (((powL F.p (trootI F (n : Int) false) n).length : Int) != (n : Int)) = false := by rw [powL_len]; exact bne_self_eq_false _
    dsimp only
    rw [e]
    refine stepE ⟨_, fun k => by simp only [epicyclelaw10_TwiddleHalves.j1]; rw [if_neg (by decide), powL_len], ?_⟩
    obtain ⟨hs, _, hh⟩ := root_half hg (n := (n : Int)) (by omega) hd
    exact halves_l0 hg (by omega) (powL_len _ _ _) (powL_len _ _ _) (fun j hj => rd_powL hj) (fun j hj => rd_powL hj) hs hh n 0 (by omega)
  · rw [decide_eq_false (fun h => hd h.2)] at D
    exact evB D J
section
variable {a b c : Int} {A : Option Addr} {cap : Nat} {l : List RE} {x y z : Int} {W : World} (hc : l.length ≤ cap) (hr : Kd.C k52 W A l.length l) (ho : okRow l)
def Says (f : Nat) (a b c : Int) (A : Option Addr) (cap : Nat) (l : List RE) (more : List Value) (W : World) : Prop := Calls Try.prog f (.agg #[.int .i64 a, .int .i64 b, .int .u64 c, .slice A l.length cap] :: more).toArray W fun e w' => e = .returned (.bool true) ∧ Below W.heap.size W w'
include hc hr ho
theorem halves_walk (hx : (Lit.int .i64 x).wf = true) : Says 10 a b c A cap l [.int .i64 x] W := by
  obtain ⟨k, hk⟩ := Ev.rounds (halves_ev ho a b c (wf_I hx))
  exact epicyclelaw10_TwiddleHalves.calls k a b c A cap l x W hr hc hk
end
end Go.Proofs.Ythnpjjpdlihepaa.F06.XW
end
