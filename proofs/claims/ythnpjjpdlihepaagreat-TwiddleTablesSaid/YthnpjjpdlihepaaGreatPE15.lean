/- Parts of this claim's texts, packed by wip/tools/prune.py: what the proof does not reach is left out. -/
import Derived.Test.YthnpjjpdlihepaaGreatPE14
import Derived.Lib.SmallJoins
section
namespace Go.Proofs.YthnpjjpdlihepaaGreat.F06
open Go Go.RowKit Go.Proofs.YthnpjjpdlihepaaGreatW.PrintWords Go.Proofs.YthnpjjpdlihepaaGreatW.PrintLast Go.Proofs.YthnpjjpdlihepaaGreatW.PrintMore Go.Proofs.YthnpjjpdlihepaaGreat.Given Go.Proofs.YthnpjjpdlihepaaGreat.M Go.Proofs.YthnpjjpdlihepaaGreat.Mont Go.Proofs.YthnpjjpdlihepaaGreat.XS Go.Proofs.YthnpjjpdlihepaaGreat.XT Go.Proofs.YthnpjjpdlihepaaGreat.XR Go.Proofs.YthnpjjpdlihepaaGreat.Opens
instance : Inhabited S83 := ⟨z83⟩
instance : Inhabited S71 := ⟨z71⟩
theorem opensPower : Opens Tryz.prog 83 k83 (fun x => (Lit.int .u64 x.f0).wf = true ∧ (Lit.int .i64 x.f1).wf = true) :=
  opens_iso (fun x : S83 => (x.f0, x.f1)) (fun a => ⟨a.1, a.2⟩) (fun _ => rfl)
    (opens_struct2 Tryz.underlying83 rfl rfl (by kernel_rfl) (by kernel_rfl) (opens_int Tryz.underlying22) (opens_int Tryz.underlying3))
theorem opensPowers : Opens Tryz.prog 69 (Kd.slice 83 k83) (fun l => (∀ x ∈ l, (Lit.int .u64 x.f0).wf = true ∧ (Lit.int .i64 x.f1).wf = true) ∧ l.length * Tryz.prog.bytesOf 83 ≤ reachBytes) :=
  opens_slice Tryz.underlying69 (by kernel_rfl) opensPower
theorem opensEntry : Opens Tryz.prog 71 k71 (fun x => (Lit.int .u64 x.f0).wf = true ∧ (Lit.int .u64 x.f1).wf = true ∧ ((∀ y ∈ x.f2, (Lit.int .u64 y.f0).wf = true ∧ (Lit.int .i64 y.f1).wf = true) ∧ x.f2.length * Tryz.prog.bytesOf 83 ≤ reachBytes)) :=
  opens_iso (fun x : S71 => (x.f0, x.f1, x.f2)) (fun a => ⟨a.1, a.2.1, a.2.2⟩) (fun _ => rfl)
    (opens_struct3 Tryz.underlying71 rfl rfl (by kernel_rfl) (by kernel_rfl) (by kernel_rfl) (opens_int Tryz.underlying22) (opens_int Tryz.underlying22) opensPowers)
def okArg (l : List S71) : Prop := (∀ x ∈ l, (Lit.int .u64 x.f0).wf = true ∧ (Lit.int .u64 x.f1).wf = true ∧ ((∀ y ∈ x.f2, (Lit.int .u64 y.f0).wf = true ∧ (Lit.int .i64 y.f1).wf = true) ∧ x.f2.length * Tryz.prog.bytesOf 83 ≤ reachBytes)) ∧ l.length * Tryz.prog.bytesOf 71 ≤ reachBytes
theorem opensEntries : Opens Tryz.prog 23 (Kd.slice 71 k71) okArg := opens_slice Tryz.underlying23 (by kernel_rfl) opensEntry
theorem okArg_row {l : List S71} (h : okArg l) : okRow l := by
  have b46 : Tryz.prog.bytesOf 71 = 40 := by kernel_rfl
  have b60 : Tryz.prog.bytesOf 83 = 16 := by kernel_rfl
  have hr : reachBytes = 140737488351232 := rfl
  unfold okArg at h
  rw [b46, b60, hr] at h
  refine ⟨⟨by omega, fun e he => by have := (h.1 e he).2.2.2; omega⟩, fun e he => ?_⟩
  obtain ⟨x, hx, rfl⟩ := List.mem_map.1 he
  obtain ⟨w0, w1, w2, _⟩ := h.1 x hx
  refine ⟨wf_U w0, wf_U w1, fun y hy => ?_⟩
  obtain ⟨z, hz, rfl⟩ := List.mem_map.1 hy
  exact ⟨wf_U (w2 z hz).1, wf_I (w2 z hz).2⟩
set_option maxRecDepth 100000 in
/-- A source: three numbers and a row. -/
theorem arg_source {H : Type} {enc : TypeId × Value → H} {w : World} {base b0 : Nat} {r : Reach} {held : Bool} {v : Value} {d : DataW H} {ps : List MemPlace}
    (hv : Value.okWide Tryz.prog w r b0 25 v) (hd : DataW.Trod enc Tryz.prog w base (fun _ => true) held 25 v d ps) (hw : (d.weights Tryz.prog 25).all (· ≤ reachBytes) = true) :
    ∃ (a b c : Int) (A : Option Addr) (cap : Nat) (l : List S71), v = .agg #[.int .i64 a, .int .i64 b, .int .u64 c, .slice A l.length cap] ∧ l.length ≤ cap ∧ Kd.C k71 w A l.length l ∧ okRow l ∧ (Lit.int .i64 a).wf = true ∧ (Lit.int .i64 b).wf = true ∧ (Lit.int .u64 c).wf = true := by
  obtain ⟨v0, v1, v2, v3, y0, y1, y2, y3, n, rfl, rfl, rfl, h0, h1, h2, h3⟩ := Joins.open_agg4 Tryz.underlying25 (by kernel_rfl) (by kernel_rfl) hv hd
  rw [DataW.weights, Tryz.underlying25] at hw
  have hw3 := each_weights (j := 3) hw rfl rfl
  obtain ⟨a, e0, _, w0⟩ := DataW.trod_int Tryz.underlying3 h0
  obtain ⟨b, e1, _, w1⟩ := DataW.trod_int Tryz.underlying3 h1
  obtain ⟨c, e2, _, w2⟩ := DataW.trod_int Tryz.underlying22 h2
  obtain ⟨l, ⟨A, cap, e3, hl, hc⟩, ho⟩ := opensEntries H enc w base n held _ _ h3 hw3
  simp only [List.cons.injEq, and_true] at e0 e1 e2 e3
  subst e0 e1 e2 e3
  exact ⟨a, b, c, A, cap, l, rfl, hl, hc, okArg_row ho, w0, w1, w2⟩
end Go.Proofs.YthnpjjpdlihepaaGreat.F06
end
section
namespace Go.Proofs.YthnpjjpdlihepaaGreat.F06.XL
open Go Go.RowKit Go.Proofs.YthnpjjpdlihepaaGreatW.PrintWords Go.Proofs.YthnpjjpdlihepaaGreatW.PrintLast Go.Proofs.YthnpjjpdlihepaaGreatW.PrintMore Go.Proofs.YthnpjjpdlihepaaGreat.Given Go.Proofs.YthnpjjpdlihepaaGreat.M Go.Proofs.YthnpjjpdlihepaaGreat.Mont Go.Proofs.YthnpjjpdlihepaaGreat.XS Go.Proofs.YthnpjjpdlihepaaGreat.XT Go.Proofs.YthnpjjpdlihepaaGreat.XR Go.Proofs.YthnpjjpdlihepaaGreat.Num Go.Proofs.YthnpjjpdlihepaaGreat.XK Go.Proofs.YthnpjjpdlihepaaGreat.T10 Go.Proofs.YthnpjjpdlihepaaGreat.XW Go.Proofs.YthnpjjpdlihepaaGreat.XL
set_option linter.unusedVariables false
theorem powL_U {F : Fld} (hg : GoodFld F) (w : Int) (n : Nat) : ∀ x ∈ powL F.p w n, U x := fun x hx => by
  unfold powL at hx
  obtain ⟨i, _, rfl⟩ := List.mem_map.1 hx
  exact hg.uE _
theorem alive_ev : Ev (fun k => epicyclelaw10_alive.f k) true := by
  obtain ⟨F, E, e1, e2, hg⟩ := small17
  have hd : (F.p - 1) % 4 = 0 := by rw [e1]; rfl
  have hr : trootI F 4 false = 13 := by show rootI F 4 = 13; unfold rootI; rw [e1, e2]; rfl
  have T := table_ev hg (n := 4) (by decide) (by decide) hd false
  obtain ⟨b, V, hb⟩ := verify_ev hg (powL_U hg (trootI F 4 false) (4 : Int).toNat)
  have rg := trootI_range hg 4 false
  have hbt : b = true := hb.2 (powL_tab hg.lo (by decide) (by decide) rg.1 rg.2 fun k => troot_ord hg (by decide) hd false k)
  subst hbt
  have l4 : ((powL F.p (trootI F 4 false) (4 : Int).toNat).length : Int) = 4 := by rw [powL_len]; rfl
  have r1 : rd (powL F.p (trootI F 4 false) (4 : Int).toNat) 1 = 13 := by
    have := rd_powL (p := F.p) (w := trootI F 4 false) (n := (4 : Int).toNat) (i := 1) (by decide)
    rw [hr, e1] at this ⊢
    exact this
  have r3 : rd (powL F.p (trootI F 4 false) (4 : Int).toNat) 3 = 4 := by
    have := rd_powL (p := F.p) (w := trootI F 4 false) (n := (4 : Int).toNat) (i := 3) (by decide)
    rw [hr, e1] at this ⊢
    exact this
  exact Ev.congr (fun k => rfl) (Ev.bind E (Ev.bind T (evP rfl (evP l4 (evP (by rw [l4]; decide) (evP r1 (evP (by rw [l4]; decide) (evP r3 (Ev.bind V (Ev.now _))))))))))
theorem lifted_ev {F : Fld} (hg : GoodFld F) {n : Int} (h1 : 1 ≤ n) (h2 : n ≤ 4096) (hd : (F.p - 1) % n = 0) (inv : Bool) : Ev (fun k => twiddle_Lifted.f k [F] n inv) ((powL F.p (trootI F n inv) n.toNat).map (mIn F.p), 0) := by
  refine Ev.congr (fun k => rfl) (Ev.bind (table_ev hg h1 h2 hd inv) (evP ⟨powL_U hg _ _, by rw [powL_len]; omega⟩ (Ev.now _)))
theorem lifted_err {F : Fld} {n e : Int} {inv : Bool} (T : Ev (fun k => twiddle_Table.f k [F] n inv) ([], e)) : Ev (fun k => twiddle_Lifted.f k [F] n inv) ([], e) :=
  Ev.congr (fun k => rfl) (Ev.bind T (evP ⟨fun x hx => absurd hx (by simp), by simp⟩ (Ev.now _)))
theorem rroot_ev {F : Fld} (hg : GoodFld F) {n : Int} (hn : I64 n) (inv : Bool) : Ev (fun k => epicycleref10_Root.f k F.p F.g n inv) (trootS F n inv) := by
  have hlo := hg.lo
  have hhi := hg.hi
  unfold trootS
  by_cases h1 : n < 1
  · rw [if_pos h1]; exact Ev.congr (fun k => rfl) (evP h1 (Ev.now _))
  rw [if_neg h1]
  by_cases h2 : n > 4096
  · rw [if_pos h2]; exact Ev.congr (fun k => rfl) (evN h1 (evP h2 (Ev.now _)))
  rw [if_neg h2]
  have wn : IntKind.u64.wrap n = n := wu64_id _ (by omega) (by omega)
  have w1 : IntKind.u64.wrap (F.p - 1) = F.p - 1 := wu64_id _ (by omega) (by omega)
  have wm : IntKind.u64.wrap (wrap64 (n - 1)) = n - 1 := by rw [w64_id _ (by omega) (by omega)]; exact wu64_id _ (by omega) (by omega)
  have em : Int.tmod (IntKind.u64.wrap (F.p - 1)) (IntKind.u64.wrap n) = (F.p - 1) % n := by rw [w1, wn, tmod_pos (by omega)]
  by_cases hd : (F.p - 1) % n = 0
  · rw [if_pos hd]
    have hn0 : 0 < n := by omega
    have c1 : (Int.tmod (IntKind.u64.wrap (F.p - 1)) (IntKind.u64.wrap n) != 0) = false := by rw [em, hd]; rfl
    have RR : Ev (fun k => epicycleref06_Root.f k F.p F.g n) (rootI F n) := by
      refine Ev.congr (f := fun k => epicycleref06_Root.j0 k F.p F.g n false) (fun k => ?_) (Ev.step (f := fun k => epicycleref02_Pow.f k F.g ((F.p - 1) / n) F.p) (fun k => ?_) ?_)
      · unfold epicycleref06_Root.f
        rw [if_neg (by omega), if_neg (by rw [wn]; omega), c1]
      · simp only [epicycleref06_Root.j0]
        rw [if_neg (by decide), if_neg (by rw [wn]; omega), w1, wn, tdiv_pos (by omega)]
        have : IntKind.u64.wrap ((F.p - 1) / n) = (F.p - 1) / n := wu64_id _ (Int.ediv_nonneg (by omega) (by omega)) (by have := Int.ediv_le_self n (show 0 ≤ F.p - 1 by omega); omega)
        rw [this]
        cases epicycleref02_Pow.f k F.g ((F.p - 1) / n) F.p <;> rfl
      · exact ref02_Pow_ev hg.uG ⟨Int.ediv_nonneg (by omega) (by omega), by have := Int.ediv_le_self n (show 0 ≤ F.p - 1 by omega); omega⟩ hg.uP hg.ne
    refine Ev.congr (fun k => rfl) (evN h1 (evN h2 (evN (by rw [wn]; omega) (evP (by rw [em]; exact hd) (Ev.bind RR ?_)))))
    cases inv with
    | false => exact evN (by decide) (Ev.now _)
    | true =>
      have P := ref02_Pow_ev (hg.uRoot n) (e := n - 1) (by unfold U; omega) hg.uP hg.ne
      rw [← wm] at P
      refine evP rfl (Ev.bind P (evR (Ev.now _) ?_))
      refine congrArg (fun z => (z, (0 : Int))) ?_
      show rootI F n ^ (IntKind.u64.wrap (wrap64 (n - 1))).toNat % F.p = invF F.p (rootI F n)
      rw [wm]
      have hne := hg.root_ne hn0 hd
      obtain ⟨_, i1, _, i3, i4⟩ := hg.inv hne
      have := hg.cancel (a := rootI F n ^ (n - 1).toNat) (b := invF F.p (rootI F n)) hne (by
        rw [i1, ← Int.pow_succ, show (n - 1).toNat.succ = n.toNat by omega]
        exact (hg.root_ord hn0 hd _).2 (Nat.dvd_refl _))
      rw [this, Int.emod_eq_of_lt i3 i4]
  · rw [if_neg hd]
    exact Ev.congr (fun k => rfl) (evN h1 (evN h2 (evN (by rw [wn]; omega) (evN (by rw [em]; exact hd) (Ev.now _)))))
theorem rtable_l0 {F : Fld} (hg : GoodFld F) {w : Int} (uw : U w) {n : Nat} (hn : n ≤ 4096) (d : Nat) : ∀ i : Nat, i + d = n →
    Ev (fun k => epicycleref10_Table.l0 k F.p w (n : Int) (powL F.p w i) (w ^ i % F.p) (i : Int)) (powL F.p w n) := by
  induction d with
  | zero =>
    intro i hi
    exact stepE ⟨_, fun k => by simp only [epicycleref10_Table.l0]; rw [if_neg (by omega)], evR (Ev.now _) (by rw [show i = n by omega])⟩
  | succ d ih =>
    intro i hi
    have Mu := ref02_Mul_ev (hg.uE (w ^ i)) uw hg.uP hg.ne
    rw [emod_mul_l, ← Int.pow_succ] at Mu
    have e : powL F.p w i ++ [w ^ i % F.p] = powL F.p w (i + 1) := by unfold powL; rw [List.range_succ, List.map_append]; rfl
    have hl := powL_len F.p w i
    have IH := ih (i + 1) (by omega)
    rw [← e] at IH
    exact stepE ⟨_, fun k => by simp only [epicycleref10_Table.l0]; rw [if_pos (by omega), if_pos (by omega), wrap_succ (by omega)], Ev.bind Mu IH⟩
theorem tables_l0 {F : Fld} (hg : GoodFld F) {w : Int} {n : Nat} (hn : n ≤ 4096) {P Q : List Int} (hP : P.length = n) (hQ : Q.length = n) (rP : ∀ j, j < n → rd P (j : Int) = w ^ j % F.p) (rQ : ∀ j, j < n → rd Q (j : Int) = mIn F.p (w ^ j % F.p)) (d : Nat) : ∀ i : Nat, i + d = n →
    Ev (fun k => epicyclelaw10_TwiddleTables.l0 k [F] P Q P (n : Int) (i : Int)) true := by
  induction d with
  | zero =>
    intro i hi
    exact stepE ⟨_, fun k => by simp only [epicyclelaw10_TwiddleTables.l0]; rw [if_neg (by omega)], Ev.now _⟩
  | succ d ih =>
    intro i hi
    have J : Ev (fun k => epicyclelaw10_TwiddleTables.j4 k [F] P Q P (n : Int) (i : Int) false) true :=
      stepE ⟨_, fun k => by simp only [epicyclelaw10_TwiddleTables.j4]; rw [if_neg (by decide), wrap_succ (by omega)], ih (i + 1) (by omega)⟩
    have r1 := rP i (by omega)
    have r2 := rQ i (by omega)
    refine stepE ⟨_, fun k => by simp only [epicyclelaw10_TwiddleTables.l0]; rw [if_pos (by omega), if_pos (by omega), if_pos (by omega), if_pos trivial, if_pos (by omega), if_pos (by omega)], ?_⟩
    have L := field_Field_Lift.at_ (F := F) (l := []) (hg.uE (w ^ i))
    rw [← r1] at L
    refine evB L ?_
    have e : (rd Q (i : Int) != mIn F.p (rd P (i : Int))) = false := by rw [bne_eq_false_iff_eq, r2, r1]
    rw [e]
    exact J
theorem tables_ev {L : List RE} (hL : okRow L) (a b c : Int) {n : Int} (hn : I64 n) (inv : Bool) : Ev (fun k => epicyclelaw10_TwiddleTables.f k a b c L n inv) true := by
  refine Ev.congr (fun k => rfl) (Ev.bind alive_ev (evP rfl ?_))
  rcases made_ev hL a b c with M | ⟨F, M, hg⟩
  · refine Ev.bind M (Ev.bind (a := (0, 2)) (Ev.congr (fun k => by unfold twiddle_Root.f; rw [if_pos (show ((([] : List Fld).length : Int) = 0) from rfl)]) (Ev.now _)) (evP rfl (evP rfl (evP rfl (Ev.now _)))))
  have J : ∀ x y, Ev (fun k => epicyclelaw10_TwiddleTables.j0 k n inv [F] F.p F.g x y true) true := fun x y =>
    stepE ⟨_, fun k => by simp only [epicyclelaw10_TwiddleTables.j0]; rw [if_pos trivial], Ev.now _⟩
  have T := troot_ev hg hn inv
  have R := rroot_ev hg hn inv
  have J0 : n ≤ 300 ∨ 4096 < n → Ev (fun k => epicyclelaw10_TwiddleTables.j0 k n inv [F] F.p F.g (trootS F n inv).1 (trootS F n inv).2 false) true := by
    intro hb
    refine stepE ⟨_, fun k => by simp only [epicyclelaw10_TwiddleTables.j0]; rw [if_neg (by decide)], ?_⟩
    refine Ev.bind R ?_
    by_cases hd : 1 ≤ n ∧ n ≤ 4096 ∧ (F.p - 1) % n = 0
    · obtain ⟨h1, h2, h3⟩ := hd
      have e : trootS F n inv = (trootI F n inv, 0) := by unfold trootS; rw [if_neg (by omega), if_neg (by omega), if_pos h3]
      have lp := powL_len F.p (trootI F n inv) n.toNat
      have en : n = (n.toNat : Int) := by omega
      rw [e]
      refine Ev.bind (table_ev hg h1 h2 h3 inv) (Ev.bind (lifted_ev hg h1 h2 h3 inv) (evP rfl (evP rfl (evP rfl ?_))))
      refine stepE ⟨_, fun k => by simp only [epicyclelaw10_TwiddleTables.j1]; rw [if_neg (by decide), if_pos trivial], ?_⟩
      have RT := rtable_l0 hg (troot_U hg n inv) (n := n.toNat) (by omega) n.toNat 0 (by omega)
      rw [Int.pow_zero, hg.one] at RT
      have RT' : Ev (fun k => epicycleref10_Table.f k F.p (trootI F n inv) n) (powL F.p (trootI F n inv) n.toNat) := by
        refine Ev.congr (fun k => ?_) RT
        unfold epicycleref10_Table.f
        rw [← en]
        rfl
      refine Ev.bind RT' (evP (by rw [lp]; omega) ?_)
      have e2 : ((((powL F.p (trootI F n inv) n.toNat).map (mIn F.p)).length : Int) != n) = false := by rw [List.length_map, lp, ← en]; exact bne_self_eq_false _
      rw [e2]
      refine stepE ⟨_, fun k => by simp only [epicyclelaw10_TwiddleTables.j2]; rw [if_neg (by decide), lp], ?_⟩
      refine tables_l0 hg (w := trootI F n inv) (n := n.toNat) (by omega) lp (by rw [List.length_map, lp]) (fun j hj => rd_powL hj) (fun j hj => ?_) n.toNat 0 (by omega)
      rw [rd_nat, List.getD_eq_getElem?_getD, List.getElem?_map, powL_at hj]
      rfl
    · obtain ⟨e, he, h0, Te⟩ := table_err hg hn hd inv
      rw [he]
      refine Ev.bind Te (Ev.bind (lifted_err Te) (evP rfl (evP rfl (evP rfl ?_))))
      have e2 : (e != e) = false := bne_self_eq_false _
      dsimp only
      rw [e2]
      exact stepE ⟨_, fun k => by simp only [epicyclelaw10_TwiddleTables.j1]; rw [if_neg (by decide), if_neg h0, if_pos (show ((([] : List Int).length : Int) = 0) from rfl)]; rfl, Ev.now _⟩
  refine Ev.bind M (Ev.bind T (evN hg.ne ?_))
  by_cases h3 : n > 300
  · refine evP h3 ?_
    by_cases h4 : n ≤ 4096
    · rw [decide_eq_true h4]; exact J _ _
    · rw [decide_eq_false h4]; exact J0 (.inr (by omega))
  · exact evN h3 (J0 (.inl (by omega)))
section
variable {a b c : Int} {A : Option Addr} {cap : Nat} {l : List RE} {x : Int} {y : Bool} {W : World}
def Says (f : Nat) (a b c : Int) (A : Option Addr) (cap : Nat) (l : List RE) (more : List Value) (W : World) : Prop := Calls Tryz.prog f (.agg #[.int .i64 a, .int .i64 b, .int .u64 c, .slice A l.length cap] :: more).toArray W fun e w' => e = .returned (.bool true) ∧ Below W.heap.size W w'
theorem tables_walk (hc : l.length ≤ cap) (hr : Kd.C k71 W A l.length l) (ho : okRow l) (hx : (Lit.int .i64 x).wf = true) : Says 4 a b c A cap l [.int .i64 x, .bool y] W := by
  obtain ⟨k, hk⟩ := Ev.rounds (tables_ev ho a b c (wf_I hx) y)
  exact epicyclelaw10_TwiddleTables.calls k a b c A cap l x y W hr hc hk
end
end Go.Proofs.YthnpjjpdlihepaaGreat.F06.XL
end
