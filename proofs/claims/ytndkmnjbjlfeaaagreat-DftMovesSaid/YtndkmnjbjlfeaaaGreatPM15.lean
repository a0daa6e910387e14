/- Parts of this claim's texts, packed by wip/tools/prune.py: what the proof does not reach is left out. -/
import Derived.Test.YtndkmnjbjlfeaaaGreatPM14
import Derived.Lib.SmallJoins
section
namespace Go.Proofs.YtndkmnjbjlfeaaaGreat.F06
open Go Go.RowKit Go.Proofs.YtndkmnjbjlfeaaaGreatW.PrintWords Go.Proofs.YtndkmnjbjlfeaaaGreatW.PrintLast Go.Proofs.YtndkmnjbjlfeaaaGreatW.PrintMore Go.Proofs.YtndkmnjbjlfeaaaGreat.Given Go.Proofs.YtndkmnjbjlfeaaaGreat.M Go.Proofs.YtndkmnjbjlfeaaaGreat.Mont Go.Proofs.YtndkmnjbjlfeaaaGreat.XS Go.Proofs.YtndkmnjbjlfeaaaGreat.XT Go.Proofs.YtndkmnjbjlfeaaaGreat.XR Go.Proofs.YtndkmnjbjlfeaaaGreat.Opens
instance : Inhabited S146 := ⟨z146⟩
instance : Inhabited S134 := ⟨z134⟩
theorem opensPower : Opens Tryz.prog 146 k146 (fun x => (Lit.int .u64 x.f0).wf = true ∧ (Lit.int .i64 x.f1).wf = true) :=
  opens_iso (fun x : S146 => (x.f0, x.f1)) (fun a => ⟨a.1, a.2⟩) (fun _ => rfl)
    (opens_struct2 Tryz.underlying146 rfl rfl (by kernel_rfl) (by kernel_rfl) (opens_int Tryz.underlying22) (opens_int Tryz.underlying3))
theorem opensPowers : Opens Tryz.prog 132 (Kd.slice 146 k146) (fun l => (∀ x ∈ l, (Lit.int .u64 x.f0).wf = true ∧ (Lit.int .i64 x.f1).wf = true) ∧ l.length * Tryz.prog.bytesOf 146 ≤ reachBytes) :=
  opens_slice Tryz.underlying132 (by kernel_rfl) opensPower
theorem opensEntry : Opens Tryz.prog 134 k134 (fun x => (Lit.int .u64 x.f0).wf = true ∧ (Lit.int .u64 x.f1).wf = true ∧ ((∀ y ∈ x.f2, (Lit.int .u64 y.f0).wf = true ∧ (Lit.int .i64 y.f1).wf = true) ∧ x.f2.length * Tryz.prog.bytesOf 146 ≤ reachBytes)) :=
  opens_iso (fun x : S134 => (x.f0, x.f1, x.f2)) (fun a => ⟨a.1, a.2.1, a.2.2⟩) (fun _ => rfl)
    (opens_struct3 Tryz.underlying134 rfl rfl (by kernel_rfl) (by kernel_rfl) (by kernel_rfl) (opens_int Tryz.underlying22) (opens_int Tryz.underlying22) opensPowers)
def okArg (l : List S134) : Prop := (∀ x ∈ l, (Lit.int .u64 x.f0).wf = true ∧ (Lit.int .u64 x.f1).wf = true ∧ ((∀ y ∈ x.f2, (Lit.int .u64 y.f0).wf = true ∧ (Lit.int .i64 y.f1).wf = true) ∧ x.f2.length * Tryz.prog.bytesOf 146 ≤ reachBytes)) ∧ l.length * Tryz.prog.bytesOf 134 ≤ reachBytes
theorem opensEntries : Opens Tryz.prog 23 (Kd.slice 134 k134) okArg := opens_slice Tryz.underlying23 (by kernel_rfl) opensEntry
theorem okArg_row {l : List S134} (h : okArg l) : okRow l := by
  have b46 : Tryz.prog.bytesOf 134 = 40 := by kernel_rfl
  have b60 : Tryz.prog.bytesOf 146 = 16 := by kernel_rfl
  have hr : reachBytes = 140737488351232 := rfl
  unfold okArg at h
  rw [b46, b60, hr] at h
  refine ⟨⟨by omega, fun e he => by have := (h.1 e he).2.2.2; omega⟩, fun e he => ?_⟩
  obtain ⟨x, hx, rfl⟩ := List.mem_map.1 he
  obtain ⟨w0, w1, w2, _⟩ := h.1 x hx
  refine ⟨wf_U w0, wf_U w1, fun y hy => ?_⟩
  obtain ⟨z, hz, rfl⟩ := List.mem_map.1 hy
  exact ⟨wf_U (w2 z hz).1, wf_I (w2 z hz).2⟩
set_option maxRecDepth 100000 in
/-- A source: three numbers and a row. -/
theorem arg_source {H : Type} {enc : TypeId × Value → H} {w : World} {base b0 : Nat} {r : Reach} {held : Bool} {v : Value} {d : DataW H} {ps : List MemPlace}
    (hv : Value.okWide Tryz.prog w r b0 25 v) (hd : DataW.Trod enc Tryz.prog w base (fun _ => true) held 25 v d ps) (hw : (d.weights Tryz.prog 25).all (· ≤ reachBytes) = true) :
    ∃ (a b c : Int) (A : Option Addr) (cap : Nat) (l : List S134), v = .agg #[.int .i64 a, .int .i64 b, .int .u64 c, .slice A l.length cap] ∧ l.length ≤ cap ∧ Kd.C k134 w A l.length l ∧ okRow l ∧ (Lit.int .i64 a).wf = true ∧ (Lit.int .i64 b).wf = true ∧ (Lit.int .u64 c).wf = true := by
  obtain ⟨v0, v1, v2, v3, y0, y1, y2, y3, n, rfl, rfl, rfl, h0, h1, h2, h3⟩ := Joins.open_agg4 Tryz.underlying25 (by kernel_rfl) (by kernel_rfl) hv hd
  rw [DataW.weights, Tryz.underlying25] at hw
  have hw3 := each_weights (j := 3) hw rfl rfl
  obtain ⟨a, e0, _, w0⟩ := DataW.trod_int Tryz.underlying3 h0
  obtain ⟨b, e1, _, w1⟩ := DataW.trod_int Tryz.underlying3 h1
  obtain ⟨c, e2, _, w2⟩ := DataW.trod_int Tryz.underlying22 h2
  obtain ⟨l, ⟨A, cap, e3, hl, hc⟩, ho⟩ := opensEntries H enc w base n held _ _ h3 hw3
  simp only [List.cons.injEq, and_true] at e0 e1 e2 e3
  subst e0 e1 e2 e3
  exact ⟨a, b, c, A, cap, l, rfl, hl, hc, okArg_row ho, w0, w1, w2⟩
end Go.Proofs.YtndkmnjbjlfeaaaGreat.F06
end
section
namespace Go.Proofs.YtndkmnjbjlfeaaaGreat.F06.XG
open Go Go.RowKit Go.Proofs.YtndkmnjbjlfeaaaGreatW.PrintWords Go.Proofs.YtndkmnjbjlfeaaaGreatW.PrintLast Go.Proofs.YtndkmnjbjlfeaaaGreatW.PrintMore Go.Proofs.YtndkmnjbjlfeaaaGreat.Given Go.Proofs.YtndkmnjbjlfeaaaGreat.M Go.Proofs.YtndkmnjbjlfeaaaGreat.Mont Go.Proofs.YtndkmnjbjlfeaaaGreat.XS Go.Proofs.YtndkmnjbjlfeaaaGreat.XT Go.Proofs.YtndkmnjbjlfeaaaGreat.XR Go.Proofs.YtndkmnjbjlfeaaaGreat.Num Go.Proofs.YtndkmnjbjlfeaaaGreat.XK Go.Proofs.YtndkmnjbjlfeaaaGreat.T10 Go.Proofs.YtndkmnjbjlfeaaaGreat.D11 Go.Proofs.YtndkmnjbjlfeaaaGreat.XW Go.Proofs.YtndkmnjbjlfeaaaGreat.XG Go.Proofs.YtndkmnjbjlfeaaaGreat.Opens
set_option linter.unusedVariables false
theorem gen5 {g : Int} (h : Ev (fun k => epicycleref05_Generator.f k 5) g) : g = 2 :=
  Ev.unique h (Ev.of (g := fun k => epicycleref05_Generator.f k 5) (fun k => epicycleref05_Generator.mono 5 k) (k := 60) (by kernel_rfl))
theorem prime5 : Prime 5 := ⟨by decide, fun d hd => by
  have := Nat.le_of_dvd (by decide) hd
  have : ∀ d : Nat, d ≤ 5 → d ∣ 5 → d = 1 ∨ d = 5 := by decide
  exact this d (by omega) hd⟩
theorem small5 : ∃ F, Ev (fun k => field_Small.f k 5) ([F], 0) ∧ F.p = 5 ∧ F.g = 2 ∧ GoodFld F := by
  obtain ⟨F, h1, h2, h3, h4⟩ := small_odd (x := 5) ⟨by decide, by decide, prime5⟩
  exact ⟨F, h1, h3, gen5 h2, h4⟩
theorem alive_ev : Ev (fun k => epicyclelaw11_alive.f k) true := by
  obtain ⟨F, E, e1, e2, hg⟩ := small5
  have h : FitL F [1, 2, 3, 4] := ⟨by decide, by decide, by rw [e1]; rfl, fun x hx => by
    rw [e1]
    have : x = 1 ∨ x = 2 ∨ x = 3 ∨ x = 4 := by simpa using hx
    omega⟩
  have R := run_ev hg h false
  have e : runL F [1, 2, 3, 4] false = [0, 4, 3, 2] := by
    have hr : trootI F (([1, 2, 3, 4] : List Int).length : Int) false = 2 := by show rootI F 4 = 2; unfold rootI; rw [e1, e2]; rfl
    unfold runL
    rw [hr, e1]
    rfl
  rw [e] at R
  exact Ev.congr (fun k => rfl) (Ev.bind E (Ev.bind R (evP rfl (Ev.bind (same_ev (by decide)) (Ev.now _)))))
theorem fit_ev {L : List RE} (hL : okRow L) (a b c : Int) {l : List Int} (hu : ∀ x ∈ l, U x) : (∃ F p, Ev (fun k => epicyclelaw11_fit.f k a b c L l 64) (F, p, false)) ∨ ∃ F, Ev (fun k => epicyclelaw11_fit.f k a b c L l 64) ([F], F.p, true) ∧ GoodFld F ∧ FitL F l ∧ l.length ≤ 64 := by
  have J1 : ∀ F p, Ev (fun k => epicyclelaw11_fit.j0 k F p true) (F, p, false) := fun F p => stepE ⟨_, fun k => by simp only [epicyclelaw11_fit.j0]; rw [if_pos trivial], Ev.now _⟩
  have J0 : ∀ F p, Ev (fun k => epicyclelaw11_fit.j0 k F p false) (F, p, true) := fun F p => stepE ⟨_, fun k => by simp only [epicyclelaw11_fit.j0]; rw [if_neg Bool.false_ne_true], Ev.now _⟩
  rcases made_ev hL a b c with M | ⟨F, M, hg⟩
  · exact .inl ⟨_, _, Ev.congr (fun k => rfl) (Ev.bind M (evP rfl (J1 _ _)))⟩
  by_cases h1 : (l.length : Int) > 64
  · exact .inl ⟨_, _, Ev.congr (fun k => rfl) (Ev.bind M (evN hg.ne (evP h1 (J1 _ _))))⟩
  have C := rcheck_at (most := 64) hg.lo hg.hi (len_I (l := l) (by omega))
  by_cases h2 : chk F.p l.length 64 = 0
  · have G := rgood_ev (p := F.p) (l := l) (by omega)
    rw [h2] at C
    obtain ⟨c1, _, c3⟩ := chk_0 h2
    by_cases h3 : allB F.p l = true
    · rw [h3] at G
      refine .inr ⟨F, Ev.congr (fun k => rfl) (Ev.bind M (evN hg.ne (evN h1 (evB C (evP rfl (Ev.bind G (J0 _ _))))))), hg, ⟨by omega, by omega, c3, fun x hx => ⟨(hu x hx).1, of_decide_eq_true h3 x hx⟩⟩, by omega⟩
    · rw [Bool.eq_false_iff.2 h3] at G
      exact .inl ⟨_, _, Ev.congr (fun k => rfl) (Ev.bind M (evN hg.ne (evN h1 (evB C (evP rfl (Ev.bind G (J1 _ _)))))))⟩
  · exact .inl ⟨_, _, Ev.congr (fun k => rfl) (Ev.bind M (evN hg.ne (evN h1 (evB C (evN h2 (J1 _ _))))))⟩
theorem moves_l1 {F : Fld} (hg : GoodFld F) {w : Int} (uw : U w) {n K : Nat} (hn : n ≤ 64) (hK : K < n) {x z : List Int} (lx : x.length = n) (lz : z.length = n) (ux : ∀ t ∈ x, U t) (hz : ∀ i, i < n → rd z (i : Int) = rd x (i : Int) * (w ^ (i * K) % F.p) % F.p) (d : Nat) : ∀ i : Nat, i + d = n →
    Ev (fun q => epicyclelaw11_DftMoves.l1 q (K : Int) F.p x z w (z.length : Int) (i : Int)) true := by
  induction d with
  | zero =>
    intro i hi
    exact stepE ⟨_, fun k => by simp only [epicyclelaw11_DftMoves.l1]; rw [if_neg (by omega)], Ev.now _⟩
  | succ d ih =>
    intro i hi
    have hr := hz i (by omega)
    have p1 : (i : Int) < (z.length : Int) := by omega
    have p2 : (0 : Int) ≤ (i : Int) := Int.natCast_nonneg _
    have p3 : (i : Int) < (x.length : Int) := by omega
    have ws : wrap64 ((i : Int) + 1) = ((i + 1 : Nat) : Int) := wrap_succ (by omega)
    have IH := ih (i + 1) (by omega)
    have vx := ux _ (rd_mem (l := x) (i := i) (by omega))
    have hik : i * K ≤ 4096 := Nat.le_trans (Nat.mul_le_mul (show i ≤ 64 by omega) (show K ≤ 64 by omega)) (by decide)
    have wk : IntKind.u64.wrap (wrap64 ((i : Int) * (K : Int))) = ((i * K : Nat) : Int) := by
      clear ih hz hr IH
      rw [← Int.natCast_mul]
      generalize i * K = m at *
      rw [w64_id _ (by omega) (by omega), wu64_id _ (by omega) (by omega)]
    have uik : U ((i * K : Nat) : Int) := by
      clear ih hz hr IH wk
      generalize i * K = m at *
      exact ⟨by omega, by omega⟩
    have P := ref02_Pow_ev uw (e := ((i * K : Nat) : Int)) uik hg.uP hg.ne
    rw [Int.toNat_natCast] at P
    have Mu := ref02_Mul_ev vx (hg.uE (w ^ (i * K))) hg.uP hg.ne
    rw [← hr] at Mu
    refine stepE ⟨_, fun k => by simp only [epicyclelaw11_DftMoves.l1]; rw [if_pos p1, if_pos p2, if_pos p1, if_pos p3, ws, wk], ?_⟩
    exact Ev.bind P (Ev.bind Mu (evP rfl IH))
theorem moves_l0 {F : Fld} (hg : GoodFld F) {l : List Int} (h : FitL F l) (hn : l.length ≤ 64) {K : Nat} (hK : K < l.length) (d : Nat) : ∀ (j : Nat) (y : List Int), j + d = l.length → y.length = l.length → (∀ x ∈ y, 0 ≤ x ∧ x < F.p) → (∀ t, t < j → rd y (((t + K) % l.length : Nat) : Int) = rd l (t : Int)) →
    Ev (fun q => epicyclelaw11_DftMoves.l0 q l (K : Int) [F] F.p (l.length : Int) y l (l.length : Int) (j : Int)) true := by
  have hpos := h.pos
  induction d with
  | zero =>
    intro j y hj hy hres hmv
    have hy' : FitL F y := ⟨by rw [hy]; exact h.pos, by rw [hy]; exact h.top, by rw [hy]; exact h.div, hres⟩
    have l1 := runL_len F l false
    have l2 := runL_len F y false
    have R := roots hg h.pos h.div false
    refine stepE ⟨_, fun k => by simp only [epicyclelaw11_DftMoves.l0]; rw [if_neg (by omega)], ?_⟩
    refine Ev.bind (run_ev hg h false) (Ev.bind (run_ev hg hy' false) (evB (Root_at F (n := (l.length : Int)) (by omega) (by omega) h.div) (evP rfl (evP rfl (evP (by rw [l1]) ?_)))))
    have e : (((runL F y false).length : Int) != (l.length : Int)) = false := by rw [l2, hy]; exact bne_self_eq_false _
    dsimp only
    rw [e]
    refine stepE ⟨_, fun k => by simp only [epicyclelaw11_DftMoves.j2]; rw [if_neg Bool.false_ne_true], ?_⟩
    refine moves_l1 hg (hg.uRoot _) hn hK l1 (by omega) ((runL_fit hg h false).u hg) (fun i hi => ?_) l.length 0 (by omega)
    rw [runL_at hi, runL_at (by omega), hy]
    show 1 * dftA (rootI F l.length) (fun t => rd y (t : Int)) l.length i % F.p = 1 * dftA (rootI F l.length) (fun t => rd l (t : Int)) l.length i % F.p * (rootI F l.length ^ (i * K) % F.p) % F.p
    rw [Int.one_mul, Int.one_mul, emod_mul_l, emod_mul_r, Int.mul_comm]
    exact R.moves hK (f := fun t => rd l (t : Int)) (g := fun t => rd y (t : Int)) (fun t ht => hmv t (by omega)) i
  | succ d ih =>
    intro j y hj hy hres hmv
    have hlt : j < l.length := by omega
    have p1 : (j : Int) < (l.length : Int) := by omega
    have p2 : (0 : Int) ≤ (j : Int) := Int.natCast_nonneg _
    have n0 : ¬ (l.length : Int) = 0 := by omega
    have ws : wrap64 ((j : Int) + 1) = ((j + 1 : Nat) : Int) := wrap_succ (by omega)
    have hm : (j + K) % l.length < l.length := Nat.mod_lt _ (by omega)
    have em : Int.tmod (wrap64 ((j : Int) + (K : Int))) (l.length : Int) = (((j + K) % l.length : Nat) : Int) := by
      rw [w64_id _ (by omega) (by omega), tmod_pos (by omega), Int.natCast_emod]
      rfl
    have q0 : (0 : Int) ≤ (((j + K) % l.length : Nat) : Int) := Int.natCast_nonneg _
    have q1 : (((j + K) % l.length : Nat) : Int) < (y.length : Int) := by rw [hy]; exact Int.ofNat_lt.2 hm
    have hv := h.res _ (rd_mem hlt)
    refine stepE ⟨_, fun k => by simp only [epicyclelaw11_DftMoves.l0]; rw [if_pos p1, if_pos p2, if_pos p1, if_neg n0, em, if_pos q0, if_pos q1, ws, Int.toNat_natCast], ?_⟩
    refine ih (j + 1) (y.set ((j + K) % l.length) (rd l (j : Int))) (by omega) (by rw [List.length_set]; exact hy) (fun x hx => ?_) (fun t ht => ?_)
    · rcases List.mem_or_eq_of_mem_set hx with h' | h'
      · exact hres x h'
      · rw [h']; exact hv
    · by_cases c : t = j
      · subst c
        exact rd_set _ (by omega)
      · have ne : (j + K) % l.length ≠ (t + K) % l.length := by
          intro e
          have hj' : (j + K) % l.length = if j + K < l.length then j + K else j + K - l.length := by
            split
            · rename_i g; exact Nat.mod_eq_of_lt g
            · rw [Nat.mod_eq_sub_mod (by omega), Nat.mod_eq_of_lt (by omega)]
          have ht' : (t + K) % l.length = if t + K < l.length then t + K else t + K - l.length := by
            split
            · rename_i g; exact Nat.mod_eq_of_lt g
            · rw [Nat.mod_eq_sub_mod (by omega), Nat.mod_eq_of_lt (by omega)]
          rw [hj', ht'] at e
          split at e <;> split at e <;> omega
        rw [rd_set_ne _ ne]
        exact hmv t (by omega)
theorem moves_ev {L : List RE} (hL : okRow L) (a b c : Int) {l : List Int} (hu : ∀ x ∈ l, U x) (k : Int) : Ev (fun q => epicyclelaw11_DftMoves.f q a b c L l k) true := by
  refine Ev.congr (fun k => rfl) (Ev.bind alive_ev (evP rfl ?_))
  have J : ∀ F p, Ev (fun q => epicyclelaw11_DftMoves.j0 q l k F p true) true := fun F p => stepE ⟨_, fun k => by simp only [epicyclelaw11_DftMoves.j0]; rw [if_pos trivial], Ev.now _⟩
  rcases fit_ev hL a b c hu with ⟨F, p, E⟩ | ⟨F, E, hg, h, h64⟩
  · exact Ev.bind E (evN Bool.false_ne_true (J _ _))
  refine Ev.bind E (evP rfl ?_)
  by_cases h1 : k < 0
  · exact evP h1 (J _ _)
  refine evN h1 ?_
  by_cases h2 : k ≥ (l.length : Int)
  · rw [decide_eq_true h2]
    exact J _ _
  rw [decide_eq_false h2]
  obtain ⟨K, rfl⟩ : ∃ K : Nat, k = K := ⟨k.toNat, by omega⟩
  have hlo := hg.lo
  have q0 : (0 : Int) ≤ (l.length : Int) := Int.natCast_nonneg _
  have q1 : (l.length : Int).toNat ≤ 35184372088832 := by omega
  refine stepE ⟨_, fun k => by simp only [epicyclelaw11_DftMoves.j0]; rw [if_neg Bool.false_ne_true, if_pos q0, if_pos q1, Int.toNat_natCast], ?_⟩
  exact moves_l0 hg h h64 (K := K) (by omega) l.length 0 (List.replicate l.length 0) (by omega) List.length_replicate (fun x hx => by rw [List.eq_of_mem_replicate hx]; omega) (fun t ht => by omega)
theorem opensU64 : Opens Tryz.prog 26 (Kd.slice 22 (Kd.int .u64)) (fun l => (∀ x ∈ l, (Lit.int .u64 x).wf = true) ∧ l.length * Tryz.prog.bytesOf 22 ≤ reachBytes) :=
  opens_slice Tryz.underlying26 (by kernel_rfl) (opens_int Tryz.underlying22)
section
variable {a b c : Int} {A : Option Addr} {cap : Nat} {l : List RE} {x y : Int} {z : Bool} {W : World} {A1 : Option Addr} {c1 : Nat} {l1 : List Int} {A2 : Option Addr} {c2 : Nat} {l2 : List Int}
def Says (f : Nat) (a b c : Int) (A : Option Addr) (cap : Nat) (l : List RE) (more : List Value) (W : World) : Prop := Calls Tryz.prog f (.agg #[.int .i64 a, .int .i64 b, .int .u64 c, .slice A l.length cap] :: more).toArray W fun e w' => e = .returned (.bool true) ∧ Below W.heap.size W w'
def okU (l : List Int) : Prop := (∀ x ∈ l, (Lit.int .u64 x).wf = true) ∧ l.length * Tryz.prog.bytesOf 22 ≤ reachBytes
theorem okU.u {l : List Int} (h : okU l) : ∀ x ∈ l, U x := fun x hx => wf_U (h.1 x hx)
theorem moves_walk (hc : l.length ≤ cap) (hr : Kd.C k134 W A l.length l) (ho : okRow l) (hc1 : l1.length ≤ c1) (hr1 : Kd.C (Kd.int .u64) W A1 l1.length l1) (ho1 : okU l1) (_hx : (Lit.int .i64 x).wf = true) : Says 7 a b c A cap l [.slice A1 l1.length c1, .int .i64 x] W := by
  obtain ⟨k, hk⟩ := Ev.rounds (moves_ev ho a b c ho1.u x)
  exact epicyclelaw11_DftMoves.calls k a b c A cap l A1 c1 l1 x W hr hc hr1 hc1 hk
end
end Go.Proofs.YtndkmnjbjlfeaaaGreat.F06.XG
end
