/- Parts of this claim's texts, packed by wip/tools/prune.py: what the proof does not reach is left out. -/
import Derived.Test.YtndkmnjbjlfeaaaPR9
import Derived.Maps.OwnSet
section
namespace Go.Proofs.Ytndkmnjbjlfeaaa.Row05
open Go Go.RowKit Go.Maps Go.Proofs.YtndkmnjbjlfeaaaW.PrintWords Go.Proofs.YtndkmnjbjlfeaaaW.PrintLast Go.Proofs.YtndkmnjbjlfeaaaW.PrintMore Go.Proofs.Ytndkmnjbjlfeaaa.Given Go.Proofs.Ytndkmnjbjlfeaaa.M Go.Proofs.Ytndkmnjbjlfeaaa.XS Go.Proofs.Ytndkmnjbjlfeaaa.XT Go.Proofs.Ytndkmnjbjlfeaaa.Given05
def Rv (v : Value) : Option (DataW Value × List MemPlace) := some (.held v, [])
abbrev entV (e : S58) (v : Value) : Value := .agg #[.int .u64 e.f0, .int .u64 e.f1, v]
abbrev zE : Value := .agg #[.int .u64 0, .int .u64 0, .slice none 0 0]
theorem zE_run (w : World) : (zeroValue 58).run Try.prog w = .ok zE w := by
  kernel_rfl
structure MapR (w : World) (base b : Nat) (f : Nat → Nat) (all : List S58) : Prop where
  own : ∃ D n, w.ownsMap Try.prog 31 Rv b n D ∧ n ≤ all.length ∧ (∀ q, Maps.has D (.int .u64 q) = all.any (fun e => e.f0 == q)) ∧
    ∀ e ∈ all, ∃ v, (∀ zd, D.atKey (.int .u64 e.f0) zd = .held (entV e v)) ∧ Kd.R k75 75 w base (fun k => f k = e.f0.toNat ∧ k ≠ b) v e.f2
theorem MapR.lt {w : World} {base b : Nat} {f : Nat → Nat} {all : List S58} (h : MapR w base b f all) : b < w.heap.size := by
  obtain ⟨D, n, ho, _⟩ := h.own
  exact ho.lt
theorem MapR.made (w : World) (base : Nat) (f : Nat → Nat) : MapR (w.alloc (.map #[] 0)) base w.heap.size f [] :=
  ⟨⟨_, 0, World.ownsMap_made w _ _ Rv, Nat.le_refl _, fun _ => rfl, fun e he => by cases he⟩⟩
theorem MapR.below {w w' : World} {base b : Nat} {f : Nat → Nat} {all : List S58} (h : MapR w base b f all) (hb : Below w.heap.size w w') : MapR w' base b f all := by
  obtain ⟨D, n, ho, hn, hh, he⟩ := h.own
  have hlt := ho.lt
  obtain ⟨es, clock, hbk, F, hs, hD⟩ := ho
  exact ⟨⟨D, n, ⟨es, clock, (hb.block b hlt).trans hbk, F, hs, hD⟩, hn, hh, fun e hm => by
    obtain ⟨v, h1, h2⟩ := he e hm
    exact ⟨v, h1, Kd.R_below h2 hb⟩⟩⟩
theorem MapR.retag {w : World} {base b : Nat} {f f' : Nat → Nat} {all : List S58} (h : MapR w base b f all) (hf : ∀ k, k < w.heap.size → f' k = f k) : MapR w base b f' all := by
  obtain ⟨D, n, ho, hn, hh, he⟩ := h.own
  exact ⟨⟨D, n, ho, hn, hh, fun e hm => by
    obtain ⟨v, h1, h2⟩ := he e hm
    exact ⟨v, h1, Kd.R_mono (Kd.R_bound h2) fun k hk => ⟨by rw [hf k hk.2.2.1]; exact hk.1.1, hk.1.2⟩⟩⟩⟩
theorem MapR.miss {w : World} {base b : Nat} {f : Nat → Nat} {all : List S58} {p : Int} (h : MapR w base b f all) (hp : (Lit.int .u64 p).wf = true) (hn : all.any (fun e => e.f0 == p) = false) :
    (Instr.lookup 50 (.map (some b)) (.int .u64 p) true).run Try.prog w = .ok (.tuple #[zE, .bool false]) w := by
  obtain ⟨D, n, ho, _, hh, _⟩ := h.own
  have hkey := keyOf_int_mk Try.underlying31 hp
  have h1 := hh p
  rw [hn] at h1
  obtain ⟨es, clock, hb, F, _, rfl⟩ := ho
  rcases Maps.fit_look true (int_keyed Try.underlying31) Try.underlying50 (zE_run w) hb F hkey with ⟨hrun, _, _⟩ | ⟨e0, y, _, _, _, _, hat, _⟩
  · exact hrun
  · rw [Maps.has_true_of_atKey hat] at h1; cases h1
theorem MapR.hit {w : World} {base b : Nat} {f : Nat → Nat} {all : List S58} {e : S58} (h : MapR w base b f all) (hp : (Lit.int .u64 e.f0).wf = true) (he : e ∈ all) :
    ∃ v, (Instr.lookup 50 (.map (some b)) (.int .u64 e.f0) true).run Try.prog w = .ok (.tuple #[entV e v, .bool true]) w ∧ (Instr.lookup 50 (.map (some b)) (.int .u64 e.f0) false).run Try.prog w = .ok (entV e v) w ∧
      Kd.R k75 75 w base (fun k => f k = e.f0.toNat ∧ k ≠ b) v e.f2 := by
  obtain ⟨D, n, ho, _, hh, hE⟩ := h.own
  have hkey := keyOf_int_mk Try.underlying31 hp
  obtain ⟨v, hat, hr⟩ := hE e he
  have hhas := Maps.has_true_of_atKey hat
  obtain ⟨v1, p1, hrun1, hv1⟩ := ho.look_ok (int_keyed Try.underlying31) Try.underlying50 (zE_run w) (zd := .held zE) (zp := []) rfl hkey
  obtain ⟨v2, p2, hrun2, hv2⟩ := ho.lookup (int_keyed Try.underlying31) Try.underlying50 (zE_run w) (zd := .held zE) (zp := []) rfl hkey
  rw [hat] at hv1 hv2
  rw [hhas] at hrun1
  have e1 : v1 = entV e v := DataW.held.inj (Prod.mk.inj (Option.some.inj hv1)).1
  have e2 : v2 = entV e v := DataW.held.inj (Prod.mk.inj (Option.some.inj hv2)).1
  rw [e1] at hrun1
  rw [e2] at hrun2
  exact ⟨v, hrun1, hrun2, hr⟩
theorem MapR.put {w w' : World} {base b : Nat} {f : Nat → Nat} {all : List S58} {D : DataW Value} {n : Nat} {e : S58} {v : Value} (hn : n ≤ all.length) (hh : ∀ q, Maps.has D (.int .u64 q) = all.any (fun e => e.f0 == q)) (hM : Maps.IsMap D)
    (hE : ∀ e ∈ all, ∃ v, (∀ zd, D.atKey (.int .u64 e.f0) zd = .held (entV e v)) ∧ Kd.R k75 75 w base (fun k => f k = e.f0.toNat ∧ k ≠ b) v e.f2) (hnew : all.any (fun x => x.f0 == e.f0) = false)
    (hr : Kd.R k75 75 w base (fun k => f k = e.f0.toNat ∧ k ≠ b) v e.f2)
    (ho : w'.ownsMap Try.prog 31 Rv b (n + 1) (D.put (.int .u64 e.f0) (.held (entV e v)))) (hg : w.grownBy w' (some b)) : MapR w' base b f (all ++ [e]) := by
  have hkl : ∀ q : Int, WideAt.IsKeyLit (.int .u64 q) := fun q => trivial
  have hne : ∀ x ∈ all, x.f0 ≠ e.f0 := fun x hx c => by
    rw [List.any_eq_false] at hnew
    exact hnew x hx (by rw [c]; exact beq_self_eq_true _)
  have hne' : ∀ {q q' : Int}, q ≠ q' → (Lit.int .u64 q) ≠ (Lit.int .u64 q') := fun h c => h (by injection c)
  refine ⟨⟨_, n + 1, ho, by rw [List.length_append]; exact Nat.add_le_add_right hn 1, fun q => ?_, fun x hx => ?_⟩⟩
  · rw [List.any_append]
    by_cases c : q = e.f0
    · subst c
      rw [Maps.has_put_same hM (hkl _)]
      simp
    · rw [Maps.has_put_other (hne' c), hh]
      have : (e.f0 == q) = false := beq_eq_false_iff_ne.mpr fun h => c h.symm
      simp [this]
  · rcases List.mem_append.1 hx with hx | hx
    · obtain ⟨u, h1, h2⟩ := hE x hx
      exact ⟨u, fun zd => by rw [Maps.atKey_put_other (hne' (hne x hx))]; exact h1 zd, Kd.R_grown h2 hg fun k hk c => hk.2 (by injection c)⟩
    · have : x = e := by simpa using hx
      subst this
      exact ⟨v, fun zd => Maps.atKey_put_same hM (hkl _) _ zd, Kd.R_grown hr hg fun k hk c => hk.2 (by injection c)⟩
end Go.Proofs.Ytndkmnjbjlfeaaa.Row05
end
section
namespace Go.Proofs.Ytndkmnjbjlfeaaa.Row05
open Go Go.RowKit Go.Maps Go.Proofs.YtndkmnjbjlfeaaaW.PrintWords Go.Proofs.YtndkmnjbjlfeaaaW.PrintLast Go.Proofs.YtndkmnjbjlfeaaaW.PrintMore Go.Proofs.Ytndkmnjbjlfeaaa.Given Go.Proofs.Ytndkmnjbjlfeaaa.M Go.Proofs.Ytndkmnjbjlfeaaa.XS Go.Proofs.Ytndkmnjbjlfeaaa.XT Go.Proofs.Ytndkmnjbjlfeaaa.Given05
instance (p : Int) : Decidable (U p) := by unfold U; infer_instance
mutual
def gatherF : Nat → List S58 → Int → Option (List S58)
  | 0, _, _ => none
  | k + 1, all, p => if U p then (if all.any (fun e => e.f0 == p) = true then some all else if p = 2 then some all else
      (sieve_Factor.f k (IntKind.u64.wrap (p - 1))).bind fun l => (sieve_Generator.f k p).bind fun g => if all.length < 1000 then gatherL k (all ++ [⟨p, g, l⟩]) l else none) else none
def gatherL : Nat → List S58 → List S75 → Option (List S58)
  | 0, _, _ => none
  | _ + 1, all, [] => some all
  | k + 1, all, x :: t => (gatherF k all x.f0).bind fun a => gatherL k a t
end
theorem gather_mono : ∀ k, (∀ all p, LeO (gatherF k all p) (gatherF (k + 1) all p)) ∧ (∀ all l, LeO (gatherL k all l) (gatherL (k + 1) all l))
  | 0 => ⟨fun _ _ r h => by simp [gatherF] at h, fun _ _ r h => by simp [gatherL] at h⟩
  | k + 1 => by
    obtain ⟨ih0, ih1⟩ := gather_mono k
    refine ⟨fun all p => ?_, fun all l => ?_⟩
    · unfold gatherF
      refine LeO.ite (LeO.ite (LeO.refl _) (LeO.ite (LeO.refl _) (LeO.bind (sieve_Factor.mono _ _) fun l => LeO.bind (sieve_Generator.mono _ _) fun g => LeO.ite (ih1 _ _) (LeO.none _)))) (LeO.none _)
    · cases l with
      | nil => unfold gatherL; exact LeO.refl _
      | cons x t => unfold gatherL; exact LeO.bind (ih0 _ _) fun a => ih1 _ _
theorem mem_of_any {all : List S58} {p : Int} (h : all.any (fun e => e.f0 == p) = true) : ∃ e ∈ all, e.f0 = p := by
  rw [List.any_eq_true] at h
  obtain ⟨e, he, hp⟩ := h
  exact ⟨e, he, by simpa using hp⟩
theorem wf_of_U {p : Int} (h : U p) : (Lit.int .u64 p).wf = true := by
  unfold U at h
  simp [Lit.wf, IntKind.min, IntKind.max, IntKind.bits, IntKind.signed]
  omega
theorem put_step {w w3 w4 : World} {base b : Nat} {f : Nat → Nat} {all : List S58} {e : S58} {v o : Value} {t : TypeId} (hbase : base ≤ w.heap.size) (hm : MapR w base b f all) (hnew : all.any (fun x => x.f0 == e.f0) = false)
    (hb3 : Below (w.alloc (.cells #[.int .u64 0, .int .u64 0, o] t)).heap.size (w.alloc (.cells #[.int .u64 0, .int .u64 0, o] t)) w3) (hv : Kd.R k75 75 w3 (w.alloc (.cells #[.int .u64 0, .int .u64 0, o] t)).heap.size (fun _ => True) v e.f2) (hb4 : Below w3.heap.size w3 w4) :
    ∃ f' D n, MapR w4 base b f' all ∧ w4.ownsMap Try.prog 31 Rv b n D ∧ n ≤ all.length ∧ (∀ w5, w5.ownsMap Try.prog 31 Rv b (n + 1) (D.put (.int .u64 e.f0) (.held (entV e v))) → w4.grownBy w5 (some b) →
      MapR w5 base b f' (all ++ [e]) ∧ Kd.R k75 75 w5 base (fun k => k ≠ b) v e.f2 ∧ w.grownBy w5 (some b)) := by
  have hs : (w.alloc (.cells #[.int .u64 0, .int .u64 0, o] t)).heap.size = w.heap.size + 1 := by simp
  have hblt := hm.lt
  have hb : Below w.heap.size w w4 := below_step (below_step (below_alloc (Below.refl _ _) _) hb3) hb4
  have hm4 : MapR w4 base b (fun k => if w.heap.size + 1 ≤ k then e.f0.toNat else f k) all := (hm.retag fun k hk => if_neg (by omega)).below hb
  have hv4 : Kd.R k75 75 w4 base (fun k => (if w.heap.size + 1 ≤ k then e.f0.toNat else f k) = e.f0.toNat ∧ k ≠ b) v e.f2 := by
    refine Kd.R_lower (Kd.R_mono (Kd.R_bound (Kd.R_below hv hb4)) fun k hk => ?_) (base := (w.alloc (.cells #[.int .u64 0, .int .u64 0, o] t)).heap.size) (by omega)
    have := hk.2.1
    rw [hs] at this
    exact ⟨if_pos this, by omega⟩
  obtain ⟨D, n, ho, hn, hh, hE⟩ := hm4.own
  refine ⟨_, D, n, hm4, ho, hn, fun w5 ho5 hg5 => ⟨MapR.put hn hh ho.isMap hE hnew hv4 ho5 hg5, Kd.R_mono (Kd.R_grown hv4 hg5 fun k hk c => hk.2 (by injection c)) fun k hk => hk.2, ?_⟩⟩
  exact ⟨hg5.os.trans hb.os, hg5.tape.trans hb.tape, hg5.output.trans hb.output, Nat.le_trans hb.size hg5.size, fun k hk hne => (hg5.block k (Nat.lt_of_lt_of_le hk hb.size) hne).trans (hb.block k hk)⟩
theorem grown_trans {w w1 w2 : World} {row : Option Nat} (h : w.grownBy w1 row) (h' : w1.grownBy w2 row) : w.grownBy w2 row :=
  ⟨h'.os.trans h.os, h'.tape.trans h.tape, h'.output.trans h.output, Nat.le_trans h.size h'.size, fun k hk hne => (h'.block k (Nat.lt_of_lt_of_le hk h.size) hne).trans (h.block k hk hne)⟩
set_option maxRecDepth 100000 in
set_option maxHeartbeats 4000000 in
theorem gather_calls (K : Nat) : ∀ (all r : List S58) (p : Int) (w : World) (base b : Nat) (f : Nat → Nat), base ≤ w.heap.size → gatherF K all p = some r → MapR w base b f all →
    Calls Try.prog 19 #[.map (some b), .int .u64 p] w fun e w' => e = .returned (.tuple #[]) ∧ (∃ f', MapR w' base b f' r) ∧ w.grownBy w' (some b) := by
  induction K using Nat.strongRecOn with
  | ind K ih =>
  intro all r p w base b f hbase h hm
  cases K with
  | zero => simp [gatherF] at h
  | succ K =>
  unfold gatherF at h
  split at h
  case isFalse => cases h
  rename_i hU
  have hwf := wf_of_U hU
  have HM := Aside0.mk hm
  have HB := Aside0.mk hbase
  split at h
  · -- it is there
    rename_i hany
    obtain rfl := Option.some.inj h
    obtain ⟨e, he, rfl⟩ := mem_of_any hany
    obtain ⟨v, hrun, _, hr⟩ := hm.hit hwf he
    obtain ⟨A, c, rfl⟩ := Kd.R_slice hr
    clear hany h hm hr ih
    go_enter Try.func19, Try.ntmps19
    go_wp2
    refine bodyPost_ret (results_none rfl _ _ _) rfl ?_
    exact ⟨rfl, ⟨f, HM.out.below (by repeat (first | exact Below.refl _ _ | apply below_alloc))⟩, World.grownBy_alloc _ _ _⟩
  · rename_i hany
    have hany' : all.any (fun e => e.f0 == p) = false := by simpa using hany
    have hrun := hm.miss hwf hany'
    split at h
    · rename_i h2
      subst h2
      obtain rfl := Option.some.inj h
      clear hany h hm ih
      go_enter Try.func19, Try.ntmps19
      go_wp2
      refine bodyPost_ret (results_none rfl _ _ _) rfl ?_
      exact ⟨rfl, ⟨f, HM.out.below (by repeat (first | exact Below.refl _ _ | apply below_alloc))⟩, World.grownBy_alloc _ _ _⟩
    · rename_i h2
      obtain ⟨l, h3, h⟩ := Option.bind_eq_some_iff.1 h
      obtain ⟨g, h4, h⟩ := Option.bind_eq_some_iff.1 h
      split at h
      case isFalse => cases h
      rename_i hlen
      have H3 := Aside0.mk h3
      have H4 := Aside0.mk h4
      have H5 := Aside0.mk h
      have HL := Aside0.mk hlen
      have HN := Aside0.mk hany'
      have HW := Aside0.mk hwf
      have c2 : (p == 2) = false := beq_eq_false_iff_ne.mpr h2
      have IH := Aside0.mk ih
      clear hany h hm h3 h4 ih hlen hany'
      go_enter Try.func19, Try.ntmps19
      go_wp2_with (first
        | (go_at_call 35; (with_reducible refine (sieve_Factor.calls K (IntKind.u64.wrap (p - 1)) l _ H3.out).mono ?_); rintro e w3 ⟨v, rfl, hv, hb3⟩; (obtain ⟨A, c, rfl⟩ := Kd.R_slice hv); have HV := Aside0.mk hv; have HB3 := Aside0.mk hb3; clear hb3 hv)
        | (go_at_call 36; (with_reducible refine (sieve_Generator.calls K p g _ H4.out).mono ?_); rintro e w4 ⟨rfl, hb4⟩; have HB4 := Aside0.mk hb4; clear hb4)
        | (at_mapUpdate; obtain ⟨f', D, n, hm4, ho, hn, hput⟩ := put_step (e := ⟨p, g, l⟩) HB.out HM.out HN.out HB3.out HV.out HB4.out; have HP := Aside0.mk hput; (refine wpList_mapUpdate_own _ rfl _ _ _ 50 rfl 31 58 (int_keyed Try.underlying31) Try.underlying50 Rv b n D rfl ho ?hnmax _ _ (.int .u64 p) rfl rfl (keyOf_int_mk Try.underlying31 HW.out) (.held (entV ⟨p, g, l⟩ (.slice A l.length c))) [] rfl ?_); (case hnmax => have := HL.out; unfold maxLen; omega); intro w5 ho5 hg5; obtain ⟨q1, q2, q3⟩ := HP.out w5 ho5 hg5; have HM5 := Aside0.mk q1; have HR5 := Aside0.mk q2; have HG5 := Aside0.mk q3; clear hput hm4 ho hn ho5 hg5 q1 q2 q3 HP))
      have HLEN : Aside0 (l.length ≤ 9223372036854775807) := ⟨(Kd.R_reads' HV.out).2.2.2.1⟩
      go_loopg [32] K (fun kq v32 wr => ∃ (i : Nat) (a : List S58), v32 = .int .i64 i ∧ i ≤ l.length ∧ Aside0 (gatherL kq a (l.drop i) = some r) ∧ Aside0 (kq ≤ K) ∧ Aside0 (∃ f', MapR wr base b f' a) ∧ Aside0 (Kd.R k75 75 wr base (fun k => k ≠ b) (.slice A l.length c) l) ∧ Aside0 (w.grownBy wr (some b)))
      case atStart => exact ⟨0, _, rfl, Nat.zero_le _, H5, ⟨Nat.le_refl _⟩, ⟨_, HM5.out⟩, HR5, HG5⟩
      case round =>
        obtain ⟨i, a, rfl, hi, HA, HK1, HMr, HRr, HGr⟩ := hrel
        cases gk with
        | zero => exact absurd HA.out (by simp [gatherL])
        | succ k1 =>
          have hlen := HLEN.out
          by_cases hlt : i < l.length
          · have c3b0 : decide ((i : Int) < (l.length : Int)) = true := decide_eq_true (by omega)
            have c3b1 : decide (i < l.length) = true := decide_eq_true hlt
            have p1 : 0 ≤ (i : Int) := by omega
            have q1 : (i : Int) < (l.length : Int) := by omega
            have hd : l.drop i = rd_T75 l (i : Int) :: l.drop (i + 1) := by
              rw [List.drop_eq_getElem_cons hlt]
              unfold rd_T75
              rw [Int.toNat_natCast, List.getD_eq_getElem?_getD, List.getElem?_eq_getElem hlt]; rfl
            have hA := HA.out
            rw [hd] at hA
            unfold gatherL at hA
            obtain ⟨a', hA1, hA2⟩ := Option.bind_eq_some_iff.1 hA
            obtain ⟨ad, rfl, hx0, hx1⟩ := at_T75 (Kd.R_reads' HRr.out).2.2 i (by omega) (by omega)
            simp only [Int.toNat_natCast] at hx0 hx1
            have HA1 := Aside0.mk hA1
            have HA2 := Aside0.mk hA2
            have HLT := Aside0.mk hlt
            obtain ⟨f1, hm1⟩ := HMr.out
            have HM1 := Aside0.mk hm1
            clear hA hA1 hA2 hd hlt hlen hi hm1 HA
            go_wp2_with (first
              | ((with_reducible refine gate_dst (N := 8) rfl ?_); refine box_event ?hg (N := 8) ?hd (cs := #[.int .u64 0, .int .i64 0]) (t := 75) ?hr ?_; (case hd => rfl); (case hg => rfl); (case hr => first | (go_simp; done) | (go_simp; rfl)); intro gb hg w11 hbox hbx2; (have GE : Aside0 (wr.heap.size ≤ gb) := ⟨by rw [hg]; exact Nat.le_refl _⟩); (have HBX := Aside0.mk hbx2); (have z0 : w11.cell? ⟨gb, 0, none⟩ = some (.int .u64 0) := (blk_cell hbox 0).trans rfl); (have z1 : w11.cell? ⟨gb, 1, none⟩ = some (.int .i64 0) := (blk_cell hbox 1).trans rfl); have z2 := blk_frozen hbox 0; have z3 := blk_frozen hbox 1; clear hbox hbx2 hg)
              | (go_at_call 19; (with_reducible refine (IH.out k1 ?hk a a' _ _ base b f1 ?hba HA1.out ?hmr).mono ?_); (case hk => have := HK1.out; omega); (case hmr => exact HM1.out.below (below_set (below_set HBX.out GE.out) GE.out)); (case hba => exact Nat.le_trans HB.out (Nat.le_trans HGr.out.size (below_set (below_set HBX.out GE.out) GE.out).size)); rintro e w6 ⟨rfl, hm6, hg6⟩; have HM6 := Aside0.mk hm6; have HG6 := Aside0.mk hg6; clear hm6 hg6))
            have HBY : Aside0 (wr.grownBy w6 (some b)) := ⟨by
              have hb := below_set (below_set (v := .int .u64 (rd_T75 l (i : Int)).f0) HBX.out GE.out (j := 0)) (v := .int .i64 (rd_T75 l (i : Int)).f1) GE.out (j := 1)
              exact grown_trans ⟨hb.os, hb.tape, hb.output, hb.size, fun k hk _ => hb.block k hk⟩ HG6.out⟩
            go_roundg k1
            case measure => have := HK1.out; omega
            case rel => exact ⟨i + 1, a', by have := HLT.out; have := HLEN.out; exact congrArg (Value.int .i64) ((w64_id ((i : Int) + 1) (by omega) (by omega)).trans rfl), by have := HLT.out; omega, HA2, ⟨by have := HK1.out; omega⟩, HM6, ⟨Kd.R_grown HRr.out HBY.out fun k hk c => hk (by injection c)⟩, ⟨grown_trans HGr.out HBY.out⟩⟩
          · have c3b0 : decide ((i : Int) < (l.length : Int)) = false := decide_eq_false (by omega)
            have c3b1 : decide (i < l.length) = false := decide_eq_false hlt
            have hA := HA.out
            rw [List.drop_eq_nil_iff.2 (by omega)] at hA
            unfold gatherL at hA
            obtain rfl := Option.some.inj hA
            clear hlt hlen hA HA
            go_wp2
            go_end0
            exact ⟨rfl, HMr.out, HGr.out⟩
end Go.Proofs.Ytndkmnjbjlfeaaa.Row05
end
section
namespace Go.Proofs.Ytndkmnjbjlfeaaa.Row05
open Go Go.RowKit Go.Maps Go.Proofs.YtndkmnjbjlfeaaaW.PrintWords Go.Proofs.YtndkmnjbjlfeaaaW.PrintLast Go.Proofs.YtndkmnjbjlfeaaaW.PrintMore Go.Proofs.Ytndkmnjbjlfeaaa.Given Go.Proofs.Ytndkmnjbjlfeaaa.M Go.Proofs.Ytndkmnjbjlfeaaa.XS Go.Proofs.Ytndkmnjbjlfeaaa.XT Go.Proofs.Ytndkmnjbjlfeaaa.Given05 Go.Proofs.Ytndkmnjbjlfeaaa.KeysU
def look (all : List S58) (q : Int) : S58 := (all.find? (fun e => e.f0 == q)).getD z58
def keysS (all : List S58) : List Int := (all.map fun e => e.f0).mergeSort (fun a b => decide (a ≤ b))
def okRow (all : List S58) : Prop := all.length ≤ 12 ∧ (all.map fun e => e.f0).Nodup ∧ ∀ e ∈ all, U e.f0
instance (all : List S58) : Decidable (okRow all) := by unfold okRow; infer_instance
def sieve_Row.f (k : Nat) (p : Int) : Option (List S58 × Int) := (sieve_odd.f k p).bind fun t => if t = true then ((gatherF k [] p).bind fun all => if okRow all then some ((keysS all).map (look all), 0) else none) else some ([], 1)
theorem sieve_Row.mono : ∀ (a0 : Int) (k : Nat), LeO (sieve_Row.f k a0) (sieve_Row.f (k + 1) a0) := fun _ k =>
  LeO.bind (sieve_odd.mono _ _) fun _ => LeO.ite (LeO.bind ((gather_mono k).1 _ _) fun _ => LeO.refl _) (LeO.refl _)
theorem keysS_perm (all : List S58) : (keysS all).Perm (all.map fun e => e.f0) := List.mergeSort_perm _ _
theorem keysS_sorted (all : List S58) : (keysS all).Pairwise (· ≤ ·) := by
  have := List.pairwise_mergeSort (le := fun a b : Int => decide (a ≤ b)) (fun a b c h1 h2 => by simp only [decide_eq_true_eq] at *; omega) (fun a b => by simp only [Bool.or_eq_true, decide_eq_true_eq]; omega) (all.map fun e => e.f0)
  exact this.imp fun h => by simpa using h
theorem keys_eq {all : List S58} (hn : (all.map fun e => e.f0).Nodup) {D : DataW Value} (hh : ∀ q, Maps.has D (.int .u64 q) = all.any (fun e => e.f0 == q)) {ss : List Int} (hk : KeysAre D ss) : ss.Perm (all.map fun e => e.f0) := by
  refine (List.perm_ext_iff_of_nodup hk.1 hn).2 fun x => ?_
  rw [hk.2 x, hh, List.any_eq_true, List.mem_map]
  exact ⟨fun ⟨e, h1, h2⟩ => ⟨e, h1, by simpa using h2⟩, fun ⟨e, h1, h2⟩ => ⟨e, h1, by simpa using h2⟩⟩
theorem sorted_eq {L L' : List Int} (h : L.Perm L') (h1 : L.Pairwise (· ≤ ·)) (h2 : L'.Pairwise (· ≤ ·)) : L = L' :=
  List.Perm.eq_of_pairwise (le := fun a b : Int => a ≤ b) (fun _ _ _ _ h1 h2 => Int.le_antisymm h1 h2) h1 h2 h
theorem look_of {all : List S58} {q : Int} (h : q ∈ all.map fun e => e.f0) : look all q ∈ all ∧ (look all q).f0 = q := by
  obtain ⟨e, he, hq⟩ := List.mem_map.1 h
  unfold look
  cases hf : all.find? (fun e => e.f0 == q) with
  | none => exact absurd (List.find?_eq_none.1 hf e he) (by simp [hq])
  | some x => exact ⟨List.mem_of_find?_eq_some hf, by simpa using List.find?_some hf⟩
theorem sorted_all {w3 : World} {base b : Nat} {f : Nat → Nat} {all : List S58} (hm : MapR w3 base b f all) (hok : okRow all) :
    Calls Try.prog 20 #[.func (.func 39) #[] #[.pointer (some ⟨w3.heap.size, 0, none⟩)]] (w3.alloc (.cells #[.map (some b)] 50)) fun e w5 =>
      ∃ A c, e = .returned (.slice A (keysS all).length c) ∧ Kd.R (Kd.int .u64) 31 w5 w3.heap.size (fun _ => True) (.slice A (keysS all).length c) (keysS all) ∧ Below w3.heap.size w3 w5 := by
  obtain ⟨D, n, ho, hn, hh, hE⟩ := hm.own
  have h12 : ∀ ss, KeysAre D ss → ss.length ≤ 12 := fun ss hss => by
    have := (keys_eq hok.2.1 hh hss).length_eq
    rw [List.length_map] at this
    have := hok.1
    omega
  have hN : Maps.size D ≤ 1000 := by have := ho.size_le; have := hok.1; omega
  refine (sorted_calls keys_enter (fun ss => KeysAre D ss) h12 (Maps.size D) hN _ (keys_gives_box b n D w3 ho)).mono ?_
  rintro e w5 ⟨v5, ss, L, rfl, hss, hp, hso, hr5, hb5⟩
  have hL : L = keysS all := sorted_eq (hp.trans ((keys_eq hok.2.1 hh hss).trans (keysS_perm all).symm)) hso (keysS_sorted all)
  subst hL
  obtain ⟨A5, c5, rfl⟩ := Kd.R_slice hr5
  exact ⟨A5, c5, rfl, Kd.R_lower hr5 (by simp), below_step (below_alloc (Below.refl _ _) _) hb5⟩
def okL (L : List Int) (i : Nat) (f : Nat → Nat) (N : Nat) (k : Nat) : Prop := (∃ q ∈ L.take i, f k = q.toNat) ∨ N ≤ k
theorem okL_next {L : List Int} {i : Nat} {f f3 : Nat → Nat} {N b : Nat} (hf : f = fun k => if k < N then f3 k else 18446744073709551616) (hn : L.Nodup) (hU : ∀ q ∈ L, U q) (hi : i < L.length) :
    (∀ k, f k = L[i].toNat ∧ k ≠ b → k < N) ∧ (∀ k, okL L i f N k → okL L (i + 1) f N k ∧ ¬ (f k = L[i].toNat ∧ k ≠ b)) ∧ (∀ k, f k = L[i].toNat ∧ k ≠ b → okL L (i + 1) f N k) := by
  have hm : L[i] ∈ L := List.getElem_mem hi
  have hu := hU _ hm
  have ht : L.take (i + 1) = L.take i ++ [L[i]] := List.take_succ_eq_append_getElem hi
  have h1 : ∀ k, f k = L[i].toNat ∧ k ≠ b → k < N := fun k hk => by
    refine Nat.lt_of_not_le fun c => ?_
    have := hk.1
    rw [hf] at this
    simp only [if_neg (show ¬ k < N by omega)] at this
    unfold U at hu
    omega
  refine ⟨h1, fun k hk => ⟨?_, fun hp => ?_⟩, fun k hk => .inl ⟨L[i], by rw [ht]; exact List.mem_append_right _ (List.mem_singleton.2 rfl), hk.1⟩⟩
  · rcases hk with ⟨q, hq, e⟩ | hk
    · exact .inl ⟨q, by rw [ht]; exact List.mem_append_left _ hq, e⟩
    · exact .inr hk
  · rcases hk with ⟨q, hq, e⟩ | hk
    · have hq' := hU q (List.mem_of_mem_take hq)
      rw [e] at hp
      have e2 : q = L[i] := by have := hp.1; unfold U at *; omega
      have := hn
      rw [← List.take_append_drop (i + 1) L, ht] at this
      have := (List.nodup_append.1 (List.nodup_append.1 this).1).2.2 q hq L[i] (by simp)
      exact this e2
    · have := h1 k hp; omega
theorem sieve_Row.calls_not {k : Nat} {p : Int} {w : World} (h : sieve_odd.f k p = some false) :
    Calls Try.prog 10 #[.int .u64 p] w fun e w' => ∃ v0_ : Value, e = .returned (.tuple #[v0_, .int .i64 1]) ∧ Kd.S k58 58 w' w.heap.size (fun _ => True) v0_ [] ∧ Below w.heap.size w w' := by
  have H1 := Aside0.mk h
  clear h
  go_enter Try.func10, Try.ntmps10
  go_wp2_with (go_at_call 18; (with_reducible refine (sieve_odd.calls k p false _ H1.out).mono ?_); rintro e w2 ⟨rfl, hb2⟩; have HB2 := Aside0.mk hb2; clear hb2)
  go_ret2
  exact ⟨_, rfl, Kd.S_nil _ _ _ _ _, HB2.out⟩
set_option maxRecDepth 100000 in
set_option maxHeartbeats 4000000 in
theorem sieve_Row.calls_odd {k : Nat} {p : Int} {all : List S58} {w : World} (h : sieve_odd.f k p = some true) (h2 : gatherF k [] p = some all) (hok : okRow all) :
    Calls Try.prog 10 #[.int .u64 p] w fun e w' => ∃ v0_ : Value, e = .returned (.tuple #[v0_, .int .i64 0]) ∧ Kd.S k58 58 w' w.heap.size (fun _ => True) v0_ ((keysS all).map (look all)) ∧ Below w.heap.size w w' := by
  have H1 := Aside0.mk h
  have H2 := Aside0.mk h2
  have HO := Aside0.mk hok
  have hmm := @run_makeMap Try.prog
  clear h h2 hok
  go_enter Try.func10, Try.ntmps10
  go_wp2_with (first
    | (go_at_call 18; (with_reducible refine (sieve_odd.calls k p true _ H1.out).mono ?_); rintro e w2 ⟨rfl, hb2⟩; have HB2 := Aside0.mk hb2; clear hb2)
    | (go_at_call 19; (with_reducible refine (gather_calls k [] all p _ w.heap.size w2.heap.size (fun _ => 0) ?hba H2.out ?hmr).mono ?_); (case hba => exact Nat.le_trans HB2.out.size (by simp)); (case hmr => exact MapR.made w2 _ _); rintro e w3 ⟨rfl, ⟨f3, hm3⟩, hg3⟩; have HM3 := Aside0.mk hm3; (have HB3 : Aside0 (Below w.heap.size w w3) := ⟨(below_alloc HB2.out _).grown hg3 (Nat.le_trans HB2.out.size (by simp)) (fun q e => by cases e; exact HB2.out.size)⟩); clear hm3 hg3 hmm)
    | (go_at_call 21; (with_reducible refine (keys_calls _ _).mono ?_); rintro e w4 ⟨rfl, rfl⟩)
    | (go_at_call 20; (with_reducible refine (sorted_all HM3.out HO.out).mono ?_); rintro e w5 ⟨A5, c5, rfl, hr5, hb5⟩; have HR5 := Aside0.mk hr5; have HB5 := Aside0.mk hb5; clear hr5 hb5))
  have HN : Aside0 ((keysS all).Nodup) := ⟨(keysS_perm all).nodup_iff.2 HO.out.2.1⟩
  have HU : Aside0 (∀ q ∈ keysS all, U q) := ⟨fun q hq => by
    obtain ⟨e, he, h⟩ := List.mem_map.1 ((keysS_perm all).mem_iff.1 hq)
    rw [← h]; exact HO.out.2.2 e he⟩
  have HK : Aside0 (∀ q ∈ keysS all, look all q ∈ all ∧ (look all q).f0 = q) := ⟨fun q hq => look_of ((keysS_perm all).mem_iff.1 hq)⟩
  have HL12 : Aside0 ((keysS all).length ≤ 12) := ⟨by have := (keysS_perm all).length_eq; rw [List.length_map] at this; have := HO.out.1; omega⟩
  obtain ⟨L, hL⟩ : ∃ L, keysS all = L := ⟨_, rfl⟩
  rw [hL] at HN HU HK HL12 HR5 ⊢
  obtain ⟨f1, hf1⟩ : ∃ f1 : Nat → Nat, f1 = fun k => if k < w5.heap.size then f3 k else 18446744073709551616 := ⟨_, rfl⟩
  have HF := Aside0.mk hf1
  have HM5 : Aside0 (MapR w5 w.heap.size w2.heap.size f1 all) := ⟨(HM3.out.below HB5.out).retag fun k hk => by rw [hf1]; exact if_pos hk⟩
  have HBW5 : Aside0 (Below w.heap.size w w5) := ⟨below_step HB3.out HB5.out⟩
  have HLE := Aside0.mk hL
  clear hL hf1 HM3 HB3 HB5
  go_loopw [5, 19] (fun v5 v19 wr => ∃ i : Nat, v19 = .int .i64 i ∧ i ≤ L.length ∧ Aside0 (Kd.S k58 58 wr w.heap.size (okL L i f1 w5.heap.size) v5 ((L.take i).map (look all))) ∧ Aside0 (∀ k, v5.ownBlock = some k → w5.heap.size ≤ k) ∧ Aside0 (Below w5.heap.size w5 wr)) (fun _ v19 _ => L.length - (intOf v19).toNat)
  case atStart => exact ⟨0, rfl, Nat.zero_le _, ⟨Kd.S_nil _ _ _ _ _⟩, ⟨fun k hk => by simp [Value.ownBlock] at hk⟩, ⟨Below.refl _ _⟩⟩
  case round =>
    obtain ⟨i, rfl, hi, HS, HOW, HBW⟩ := hrel
    have hl12 := HL12.out
    by_cases hlt : i < L.length
    · have c3b0 : decide ((i : Int) < (L.length : Int)) = true := decide_eq_true (by omega)
      have c3b1 : decide (i < L.length) = true := decide_eq_true hlt
      have p1 : 0 ≤ (i : Int) := by omega
      have q1 : (i : Int) < (L.length : Int) := by omega
      obtain ⟨e0, he0⟩ : ∃ e0, look all L[i] = e0 := ⟨_, rfl⟩
      obtain ⟨hmem, hq⟩ := HK.out L[i] (List.getElem_mem hlt)
      rw [he0] at hmem hq
      have hwf := wf_of_U (HO.out.2.2 e0 hmem)
      have HMr := HM5.out.below HBW.out
      obtain ⟨v, _, hrun, hr⟩ := HMr.hit hwf hmem
      obtain ⟨Ae, ce, rfl⟩ := Kd.R_slice hr
      have HR := Aside0.mk hr
      obtain ⟨ad, cc, rfl, _, hK, hcell⟩ := Kd.C_get (Kd.R_reads' (Kd.R_below HR5.out HBW.out)).2.2 (0 : Int) (i : Int) p1 q1
      have hx0 : wr.cell? (ad.add i) = some (.int .u64 e0.f0) := by
        have hcc : cc = [.int .u64 (L.getD (i : Int).toNat 0)] := hK
        have := hcell 0 (.int .u64 (L.getD (i : Int).toNat 0)) (by rw [hcc]; rfl)
        rw [Int.toNat_natCast, List.getD_eq_getElem?_getD, List.getElem?_eq_getElem hlt] at this
        rw [hq]
        simpa [Kd.int, Kd.scalar] using this
      obtain ⟨o1, o2, o3⟩ := okL_next (b := w2.heap.size) HF.out HN.out HU.out hlt
      rw [← hq] at o1 o2 o3
      have O1 := Aside0.mk o1
      have O2 := Aside0.mk o2
      have O3 := Aside0.mk o3
      have hlen2 : ((L.take i).map (look all)).length = i := by rw [List.length_map, List.length_take]; omega
      have HLN := Aside0.mk hlen2
      have hnext : (L.take (i + 1)).map (look all) = (L.take i).map (look all) ++ [e0] := by rw [List.take_succ_eq_append_getElem hlt, List.map_append, ← he0]; rfl
      have HNX := Aside0.mk hnext
      have HLT := Aside0.mk hlt
      have HBY : Aside0 (Below w.heap.size w wr) := ⟨below_step HBW5.out HBW.out⟩
      clear hmem he0 hq hi hK hcell hr HMr o1 o2 o3 hlen2 hnext hlt hl12 hwf
      go_wp2_with ((with_reducible refine gate_builtin (b := .append) (xs := #[.tmp 23, .tmp 27]) rfl ?_); at_builtin; (refine Kd.S_append k58 (w0 := w) w.heap.size rfl (.tmp 23) (.tmp 27) 37 58 (.agg #[(.int .u64 0), (.int .u64 0), (.slice none 0 0)]) 40 rfl Try.underlying37 info58 rfl (by decide) (by omega) _ ((L.take i).map (look all)) e0 [.int .u64 e0.f0, .int .u64 e0.f1, .slice Ae e0.f2.length ce] (okL L (i + 1) f1 w5.heap.size) (fun k => f1 k = e0.f0.toNat ∧ k ≠ w2.heap.size) rfl rfl ?aP ?aK ?aF ?aO ?aB ?aS ?aL ?_); (case aP => exact k58_mkM _ _ _ e0 HR.out); (case aK => exact fun k hk => ⟨O3.out k hk, fun c => by have := HOW.out k c.symm; have := O1.out k hk; omega⟩); (case aF => exact fun k hk => .inr (Nat.le_trans HBW.out.size hk)); (case aO => exact Kd.S_mono HS.out O2.out); (case aB => exact HBY.out); (case aS => exact HBY.out.size); (case aL => have := HLN.out; have := HLT.out; have := HL12.out; omega); intro v1 w6 ho hb hg hat; have HO6 := Aside0.mk ho; have HG6 := Aside0.mk hg; have HAT := Aside0.mk hat; clear ho hb hg hat)
      have HG : Aside0 (Below w5.heap.size w5 w6) := ⟨HBW.out.grown HG6.out HBW.out.size HOW.out⟩
      rw [← HNX.out] at HO6
      go_roundw
      case rel => exact ⟨i + 1, by have := HLT.out; have := HL12.out; exact congrArg (Value.int .i64) ((w64_id ((i : Int) + 1) (by omega) (by omega)).trans rfl), HLT.out, HO6, ⟨fun k hk => by
        rcases HAT.out with c | ⟨q, c, hq⟩
        · rw [c] at hk; exact HOW.out k hk
        · rw [c] at hk; cases hk; exact Nat.le_trans HBW.out.size hq⟩, HG⟩
      case measure =>
        have := HLT.out
        have := HL12.out
        rw [w64_id ((i : Int) + 1) (by omega) (by omega)]
        simp [intOf]; omega
    · have c3b0 : decide ((i : Int) < (L.length : Int)) = false := decide_eq_false (by omega)
      have c3b1 : decide (i < L.length) = false := decide_eq_false hlt
      have hr : (L.take i).map (look all) = L.map (look all) := by rw [List.take_of_length_le (by omega)]
      rw [hr] at HS
      clear hlt hr hi hl12
      go_wp2
      go_ret2
      refine ⟨_, rfl, ?_, below_step HBW5.out HBW.out⟩
      rw [HLE.out]
      exact Kd.S_mono HS.out (fun _ _ => trivial)
theorem sieve_Row.calls (k : Nat) (a0 : Int) (r : List S58) (r2 : Int) (w : World) (h : sieve_Row.f k a0 = some (r, r2)) :
    Calls Try.prog 10 #[.int .u64 a0] w fun e w' => ∃ v0_ : Value, e = .returned (.tuple #[v0_, .int .i64 r2]) ∧ Kd.S k58 58 w' w.heap.size (fun _ => True) v0_ r ∧ Below w.heap.size w w' := by
  unfold sieve_Row.f at h
  obtain ⟨t, h1, h⟩ := Option.bind_eq_some_iff.1 h
  cases t with
  | false =>
    rw [if_neg Bool.false_ne_true] at h
    obtain ⟨rfl, rfl⟩ := Prod.mk.inj (Option.some.inj h)
    exact sieve_Row.calls_not h1
  | true =>
    rw [if_pos rfl] at h
    obtain ⟨all, h2, h⟩ := Option.bind_eq_some_iff.1 h
    split at h
    case isFalse => cases h
    rename_i hok
    obtain ⟨rfl, rfl⟩ := Prod.mk.inj (Option.some.inj h)
    exact sieve_Row.calls_odd h1 h2 hok
end Go.Proofs.Ytndkmnjbjlfeaaa.Row05
end
section
namespace Go.Proofs.Ytndkmnjbjlfeaaa.XT
open Go.RowKit Go.Proofs.Ytndkmnjbjlfeaaa.Given Go.Proofs.Ytndkmnjbjlfeaaa.Given05 Go.Proofs.Ytndkmnjbjlfeaaa.XS Go.Proofs.Ytndkmnjbjlfeaaa.Given04 Go.Proofs.Ytndkmnjbjlfeaaa.Row05 Go.Proofs.YtndkmnjbjlfeaaaW.PrintWords Go.Proofs.YtndkmnjbjlfeaaaW.PrintLast Go.Proofs.YtndkmnjbjlfeaaaW.PrintMore
attribute [local go_sem] max2_int min2_int max_two min_two max_three min_three max_four min_four   -- for this text's walks alone
set_option linter.unusedVariables false
set_option linter.unusedSimpArgs false
mutual
def proof_whole.j0 : Nat → List (S58) → Bool → Int → Int → List (S75) → Option (Bool)
 | 0, _, _, _, _, _ => none
 | k + 1, x0, x27, x102000, x102001, x102002 => if x27 = true then (some false) else (proof_whole.l0 k x0 1 x102002 (x102002.length : Int) 0 x102000 x102001 x102002)
def proof_whole.l0 : Nat → List (S58) → Int → List (S75) → Int → Int → Int → Int → List (S75) → Option (Bool)
 | 0, _, _, _, _, _, _, _, _ => none
 | k + 1, x0, x5, x29, x30, x31, x102000, x102001, x102002 => if x31 < x30 then (if 0 ≤ x31 then (if x31 < (x29.length : Int) then (if ((rd_T75 x29 x31).f1) < 1 then (proof_whole.j2 k x0 x5 x31 x29 x30 x31 true x102000 x102001 x102002 ((rd_T75 x29 x31).f0) ((rd_T75 x29 x31).f1)) else (proof_whole.j2 k x0 x5 x31 x29 x30 x31 (decide (((rd_T75 x29 x31).f1) > 62)) x102000 x102001 x102002 ((rd_T75 x29 x31).f0) ((rd_T75 x29 x31).f1))) else (none)) else (none)) else (some (x5 == (IntKind.u64.wrap (x102000 - 1))))
def proof_whole.j2 : Nat → List (S58) → Int → Int → List (S75) → Int → Int → Bool → Int → Int → List (S75) → Int → Int → Option (Bool)
 | 0, _, _, _, _, _, _, _, _, _, _, _, _ => none
 | k + 1, x0, x5, x6, x29, x30, x31, x43, x102000, x102001, x102002, x105000, x105001 => if x43 = true then (some false) else (if x6 > 0 then (if 0 ≤ (wrap64 (x6 - 1)) then (if (wrap64 (x6 - 1)) < (x102002.length : Int) then (if x105000 ≤ ((rd_T75 x102002 (wrap64 (x6 - 1))).f0) then (proof_whole.j3 k x0 x5 x29 x30 x31 true x102000 x102001 x102002 x105000 x105001) else ((proof_claimed.f x0 x105000).bind fun t106 => (proof_whole.j3 k x0 x5 x29 x30 x31 (!t106) x102000 x102001 x102002 x105000 x105001))) else (none)) else (none)) else (proof_whole.j3 k x0 x5 x29 x30 x31 false x102000 x102001 x102002 x105000 x105001))
def proof_whole.j3 : Nat → List (S58) → Int → List (S75) → Int → Int → Bool → Int → Int → List (S75) → Int → Int → Option (Bool)
 | 0, _, _, _, _, _, _, _, _, _, _, _ => none
 | k + 1, x0, x5, x29, x30, x31, x64, x102000, x102001, x102002, x105000, x105001 => if x64 = true then (some false) else (proof_whole.l1 k x0 x5 x29 x30 x31 x105001 0 x102000 x102001 x102002 x105000 x105001)
def proof_whole.l1 : Nat → List (S58) → Int → List (S75) → Int → Int → Int → Int → Int → Int → List (S75) → Int → Int → Option (Bool)
 | 0, _, _, _, _, _, _, _, _, _, _, _, _ => none
 | k + 1, x0, x5, x29, x30, x31, x66, x67, x102000, x102001, x102002, x105000, x105001 => if x67 < x66 then ((bits_Mul64.f x5 x105000).bind fun bt107 => (if bt107.1 > 0 then (some false) else (proof_whole.l1 k x0 bt107.2 x29 x30 x31 x66 (wrap64 (x67 + 1)) x102000 x102001 x102002 x105000 x105001))) else (proof_whole.l0 k x0 x5 x29 x30 (wrap64 (x31 + 1)) x102000 x102001 x102002)
end
def proof_whole.f (k : Nat) (l0 : List (S58)) (a1_0 : Int) (a1_1 : Int) (l1_2 : List (S75)) : Option (Bool) := if (l1_2.length : Int) = 0 then (proof_whole.j0 k l0 true a1_0 a1_1 l1_2) else (if (l1_2.length : Int) > 16 then (proof_whole.j0 k l0 true a1_0 a1_1 l1_2) else (if 0 < (l1_2.length : Int) then (proof_whole.j0 k l0 (((rd_T75 l1_2 0).f0) != 2) a1_0 a1_1 l1_2) else (none)))
theorem proof_whole.mono_l : ∀ k, (∀ y0 y1 y2 y3 y4, LeO (proof_whole.j0 k y0 y1 y2 y3 y4) (proof_whole.j0 (k + 1) y0 y1 y2 y3 y4)) ∧ (∀ y0 y1 y2 y3 y4 y5 y6 y7, LeO (proof_whole.l0 k y0 y1 y2 y3 y4 y5 y6 y7) (proof_whole.l0 (k + 1) y0 y1 y2 y3 y4 y5 y6 y7)) ∧ (∀ y0 y1 y2 y3 y4 y5 y6 y7 y8 y9 y10 y11, LeO (proof_whole.j2 k y0 y1 y2 y3 y4 y5 y6 y7 y8 y9 y10 y11) (proof_whole.j2 (k + 1) y0 y1 y2 y3 y4 y5 y6 y7 y8 y9 y10 y11)) ∧ (∀ y0 y1 y2 y3 y4 y5 y6 y7 y8 y9 y10, LeO (proof_whole.j3 k y0 y1 y2 y3 y4 y5 y6 y7 y8 y9 y10) (proof_whole.j3 (k + 1) y0 y1 y2 y3 y4 y5 y6 y7 y8 y9 y10)) ∧ (∀ y0 y1 y2 y3 y4 y5 y6 y7 y8 y9 y10 y11, LeO (proof_whole.l1 k y0 y1 y2 y3 y4 y5 y6 y7 y8 y9 y10 y11) (proof_whole.l1 (k + 1) y0 y1 y2 y3 y4 y5 y6 y7 y8 y9 y10 y11))
 | 0 => ⟨fun _ _ _ _ _ r h => by simp [proof_whole.j0] at h, fun _ _ _ _ _ _ _ _ r h => by simp [proof_whole.l0] at h, fun _ _ _ _ _ _ _ _ _ _ _ _ r h => by simp [proof_whole.j2] at h, fun _ _ _ _ _ _ _ _ _ _ _ r h => by simp [proof_whole.j3] at h, fun _ _ _ _ _ _ _ _ _ _ _ _ r h => by simp [proof_whole.l1] at h⟩
 | k + 1 => by
  obtain ⟨ih0, ih1, ih2, ih3, ih4⟩ := proof_whole.mono_l k
  refine ⟨?_, ?_, ?_, ?_, ?_⟩
  ·intro y0 y1 y2 y3 y4
   unfold proof_whole.j0
   repeat' first
   | (with_reducible exact ih0 _ _ _ _ _)
   | (with_reducible exact ih1 _ _ _ _ _ _ _ _)
   | (with_reducible exact ih2 _ _ _ _ _ _ _ _ _ _ _ _)
   | (with_reducible exact ih3 _ _ _ _ _ _ _ _ _ _ _)
   | (with_reducible exact ih4 _ _ _ _ _ _ _ _ _ _ _ _)
   | (with_reducible exact LeO.refl _)
   | (with_reducible exact LeO.none _)
   | (with_reducible refine LeO.ite ?_ ?_)
   | (with_reducible refine LeO.bind ?_ (fun _ => ?_))
   | exact ih0 _ _ _ _ _
   | exact ih1 _ _ _ _ _ _ _ _
   | exact ih2 _ _ _ _ _ _ _ _ _ _ _ _
   | exact ih3 _ _ _ _ _ _ _ _ _ _ _
   | exact ih4 _ _ _ _ _ _ _ _ _ _ _ _
   | exact LeO.none _
   | refine LeO.ite ?_ ?_
   | refine LeO.bind ?_ (fun _ => ?_)
  ·intro y0 y1 y2 y3 y4 y5 y6 y7
   unfold proof_whole.l0
   repeat' first
   | (with_reducible exact ih0 _ _ _ _ _)
   | (with_reducible exact ih1 _ _ _ _ _ _ _ _)
   | (with_reducible exact ih2 _ _ _ _ _ _ _ _ _ _ _ _)
   | (with_reducible exact ih3 _ _ _ _ _ _ _ _ _ _ _)
   | (with_reducible exact ih4 _ _ _ _ _ _ _ _ _ _ _ _)
   | (with_reducible exact LeO.refl _)
   | (with_reducible exact LeO.none _)
   | (with_reducible refine LeO.ite ?_ ?_)
   | (with_reducible refine LeO.bind ?_ (fun _ => ?_))
   | exact ih0 _ _ _ _ _
   | exact ih1 _ _ _ _ _ _ _ _
   | exact ih2 _ _ _ _ _ _ _ _ _ _ _ _
   | exact ih3 _ _ _ _ _ _ _ _ _ _ _
   | exact ih4 _ _ _ _ _ _ _ _ _ _ _ _
   | exact LeO.none _
   | refine LeO.ite ?_ ?_
   | refine LeO.bind ?_ (fun _ => ?_)
  ·intro y0 y1 y2 y3 y4 y5 y6 y7 y8 y9 y10 y11
   unfold proof_whole.j2
   repeat' first
   | (with_reducible exact ih0 _ _ _ _ _)
   | (with_reducible exact ih1 _ _ _ _ _ _ _ _)
   | (with_reducible exact ih2 _ _ _ _ _ _ _ _ _ _ _ _)
   | (with_reducible exact ih3 _ _ _ _ _ _ _ _ _ _ _)
   | (with_reducible exact ih4 _ _ _ _ _ _ _ _ _ _ _ _)
   | (with_reducible exact LeO.refl _)
   | (with_reducible exact LeO.none _)
   | (with_reducible refine LeO.ite ?_ ?_)
   | (with_reducible refine LeO.bind ?_ (fun _ => ?_))
   | exact ih0 _ _ _ _ _
   | exact ih1 _ _ _ _ _ _ _ _
   | exact ih2 _ _ _ _ _ _ _ _ _ _ _ _
   | exact ih3 _ _ _ _ _ _ _ _ _ _ _
   | exact ih4 _ _ _ _ _ _ _ _ _ _ _ _
   | exact LeO.none _
   | refine LeO.ite ?_ ?_
   | refine LeO.bind ?_ (fun _ => ?_)
  ·intro y0 y1 y2 y3 y4 y5 y6 y7 y8 y9 y10
   unfold proof_whole.j3
   repeat' first
   | (with_reducible exact ih0 _ _ _ _ _)
   | (with_reducible exact ih1 _ _ _ _ _ _ _ _)
   | (with_reducible exact ih2 _ _ _ _ _ _ _ _ _ _ _ _)
   | (with_reducible exact ih3 _ _ _ _ _ _ _ _ _ _ _)
   | (with_reducible exact ih4 _ _ _ _ _ _ _ _ _ _ _ _)
   | (with_reducible exact LeO.refl _)
   | (with_reducible exact LeO.none _)
   | (with_reducible refine LeO.ite ?_ ?_)
   | (with_reducible refine LeO.bind ?_ (fun _ => ?_))
   | exact ih0 _ _ _ _ _
   | exact ih1 _ _ _ _ _ _ _ _
   | exact ih2 _ _ _ _ _ _ _ _ _ _ _ _
   | exact ih3 _ _ _ _ _ _ _ _ _ _ _
   | exact ih4 _ _ _ _ _ _ _ _ _ _ _ _
   | exact LeO.none _
   | refine LeO.ite ?_ ?_
   | refine LeO.bind ?_ (fun _ => ?_)
  ·intro y0 y1 y2 y3 y4 y5 y6 y7 y8 y9 y10 y11
   unfold proof_whole.l1
   repeat' first
   | (with_reducible exact ih0 _ _ _ _ _)
   | (with_reducible exact ih1 _ _ _ _ _ _ _ _)
   | (with_reducible exact ih2 _ _ _ _ _ _ _ _ _ _ _ _)
   | (with_reducible exact ih3 _ _ _ _ _ _ _ _ _ _ _)
   | (with_reducible exact ih4 _ _ _ _ _ _ _ _ _ _ _ _)
   | (with_reducible exact LeO.refl _)
   | (with_reducible exact LeO.none _)
   | (with_reducible refine LeO.ite ?_ ?_)
   | (with_reducible refine LeO.bind ?_ (fun _ => ?_))
   | exact ih0 _ _ _ _ _
   | exact ih1 _ _ _ _ _ _ _ _
   | exact ih2 _ _ _ _ _ _ _ _ _ _ _ _
   | exact ih3 _ _ _ _ _ _ _ _ _ _ _
   | exact ih4 _ _ _ _ _ _ _ _ _ _ _ _
   | exact LeO.none _
   | refine LeO.ite ?_ ?_
   | refine LeO.bind ?_ (fun _ => ?_)
theorem proof_whole.mono : ∀ a0 a1 a2 a3 k, LeO (proof_whole.f k a0 a1 a2 a3) (proof_whole.f (k + 1) a0 a1 a2 a3) := by
 intro a0 a1 a2 a3 k
 obtain ⟨ih0, ih1, ih2, ih3, ih4⟩ := proof_whole.mono_l k
 unfold proof_whole.f
 repeat' first
   | (with_reducible exact ih0 _ _ _ _ _)
   | (with_reducible exact ih1 _ _ _ _ _ _ _ _)
   | (with_reducible exact ih2 _ _ _ _ _ _ _ _ _ _ _ _)
   | (with_reducible exact ih3 _ _ _ _ _ _ _ _ _ _ _)
   | (with_reducible exact ih4 _ _ _ _ _ _ _ _ _ _ _ _)
   | (with_reducible exact LeO.refl _)
   | (with_reducible exact LeO.none _)
   | (with_reducible refine LeO.ite ?_ ?_)
   | (with_reducible refine LeO.bind ?_ (fun _ => ?_))
   | exact ih0 _ _ _ _ _
   | exact ih1 _ _ _ _ _ _ _ _
   | exact ih2 _ _ _ _ _ _ _ _ _ _ _ _
   | exact ih3 _ _ _ _ _ _ _ _ _ _ _
   | exact ih4 _ _ _ _ _ _ _ _ _ _ _ _
   | exact LeO.none _
   | refine LeO.ite ?_ ?_
   | refine LeO.bind ?_ (fun _ => ?_)
def proof_whole.T9 : Bool × List (List Nat × List Nat) := (true, [([], []), ([0], [0]), ([1], [1]), ([2], [2]), ([3, 2], [2, 3]), ([2], [2]), ([5, 2], [2, 5]), ([2], [2]), ([7, 2], [2, 7]), ([6, 8, 2], [2, 6, 8]), ([9, 2], [2, 9]), ([10, 2], [2, 10]), ([4, 11, 2], [2, 4, 11]), ([12, 2, 2], [2, 12]), ([13], [13]), ([13], [13]), ([15, 13], [13, 15]), ([14, 16, 13, 13], [13, 14, 16]), ([17, 13], [13, 17]), ([13, 18, 2], [2, 13, 18]), ([2, 19], [2, 19])])
def proof_whole.B9 : List Nat := [0, 1, 3, 7, 15, 7, 39, 7, 135, 487, 999, 2023, 4095, 8191, 16383, 16383, 49151, 131071, 262143, 524287, 1048575]
theorem proof_whole.tab9 : rtab .any (opsOf Try.f57 9) = proof_whole.T9 := by kernel_rfl
theorem proof_whole.bits9 : waitsOk proof_whole.T9.2 proof_whole.B9 = true := by kernel_rfl
set_option maxHeartbeats 8000000 in
set_option maxRecDepth 100000 in
theorem proof_whole.calls (k : Nat) (A0 : Option Addr) (c0 : Nat) (l0 : List (S58)) (a1_0 : Int) (a1_1 : Int) (A1_2 : Option Addr) (c1_2 : Nat) (l1_2 : List (S75)) (r : Bool) (w : World) (hr0 : Kd.C k58 w A0 l0.length l0) (hc0 : l0.length ≤ c0) (hr1_2 : Kd.C k75 w A1_2 l1_2.length l1_2) (hc1_2 : l1_2.length ≤ c1_2) (h : proof_whole.f k l0 a1_0 a1_1 l1_2 = some r) :
  Calls Try.prog 57 #[.slice A0 l0.length c0, .agg #[.int .u64 a1_0, .int .u64 a1_1, .slice A1_2 l1_2.length c1_2]] w fun e w' => e = .returned (.bool r) ∧ Below w.heap.size w w' := by
 have hu58 := Try.underlying58
 have hu75 := Try.underlying75
 have HR0 := Aside0.mk hr0
 have HC0 := Aside0.mk hc0
 clear hr0 hc0
 have HR1_2 := Aside0.mk hr1_2
 have HC1_2 := Aside0.mk hc1_2
 clear hr1_2 hc1_2
 have HB := Aside0.mk (Below.refl w.heap.size w)
 have H : (if (l1_2.length : Int) = 0 then (proof_whole.j0 k l0 true a1_0 a1_1 l1_2) else (if (l1_2.length : Int) > 16 then (proof_whole.j0 k l0 true a1_0 a1_1 l1_2) else (if 0 < (l1_2.length : Int) then (proof_whole.j0 k l0 (((rd_T75 l1_2 0).f0) != 2) a1_0 a1_1 l1_2) else (none)))) = some r := h
 clear h
 have HC3 := Aside0.mk H
 clear H
 go_enter Try.func57, Try.ntmps57
 go_upto_region 1 with (first | ((with_reducible refine gate_dst (N := 3) rfl ?_); (try (refine gate_guard (by rfl) ?_; dsimp only)); refine box_event ?hg (N := 3) ?hd (cs := #[.int .u64 a1_0, .int .u64 a1_1, .slice A1_2 l1_2.length c1_2]) (t := 58) ?hr ?_; (case hd => rfl); (case hg => rfl); (case hr => first | (go_simp; done) | (go_simp; rfl)); intro gb101 hg w4 hbox hb; have n0_ := Aside0.mk (below_step (by repeat (first | (with_reducible first | exact HB.out | apply below_alloc | apply pw_below_drewN | apply below_drew1) | exact HB.out)) hb); have n1_ := Aside0.mk (hbox); have n2_ := Aside0.mk ((by rw [hg]; exact (below_size (by repeat (first | (with_reducible first | exact HB.out | apply below_alloc | apply pw_below_drewN | apply below_drew1) | exact HB.out))) : w.heap.size ≤ gb101)); have n3_ := Aside0.mk ((by rw [hg]; exact (below_size (by repeat (first | (with_reducible first | exact HB.out | apply below_alloc | apply pw_below_drewN | apply below_drew1) | exact HB.out))) : w.heap.size ≤ gb101)); clear HB; have HB := n0_; have BK101 := n1_; have GW101 := n2_; have GE101 := n3_; clear n0_ n1_ n2_ n3_; clear hb hbox hg))
 (try simp only [Act.put, List.setIfInBounds_toArray, List.set_cons_zero, List.set_cons_succ])
 go_cut [27] (fun v27 wc => ∃ (kq : Nat) (x27_2 : Bool), v27 = .bool x27_2 ∧ Aside0 (proof_whole.j0 kq l0 x27_2 a1_0 a1_1 l1_2 = some r) ∧ Aside0 (kq ≤ k) ∧ Aside0 (wc.heap[gb101]? = some (.cells #[.int .u64 a1_0, .int .u64 a1_1, (.slice A1_2 l1_2.length c1_2)] 58 (0, 0))) ∧ Aside0 (Below w.heap.size w wc))
 case first =>
  have H := HC3.out
  clear HC3
  by_cases c5 : (l1_2.length : Int) = 0
  ·rw [if_pos c5] at H
   have c5b0 : ((l1_2.length : Int) == 0) = true := beq_iff_eq.mpr c5
   have c5b1 : ((l1_2.length : Int) != 0) = false := bne_eq_false_iff_eq.mpr c5
   clear c5
   (first | rw [c5b0] | (simp only [i64_w, i32_w]; rw [c5b0]) | skip)
   have H' := Aside0.mk H
   clear H
   have hcz6_0 : w4.cell? ⟨gb101, 0, none⟩ = some (.int .u64 a1_0) := (blk_cell BK101.out 0).trans rfl
   have hcz6_1 : w4.cell? ⟨gb101, 1, none⟩ = some (.int .u64 a1_1) := (blk_cell BK101.out 1).trans rfl
   have hcz6_2 : w4.cell? ⟨gb101, 2, none⟩ = some (.slice A1_2 l1_2.length c1_2) := (blk_cell BK101.out 2).trans rfl
   have hfz6_0 := blk_frozen BK101.out 0
   have hfz6_1 := blk_frozen BK101.out 1
   have hfz6_2 := blk_frozen BK101.out 2
   go_wp2
   go_meet
   case rel => exact ⟨_, (true), (by first | rfl | (simp; done) | (simp [*]; done)), H', ⟨by first | omega | exact Nat.le_refl _⟩, ⟨by (with_reducible repeat (first | refine blk_drewN ?_ _ | refine blk_drew ?_ | refine blk_alloc ?_ _)); exact BK101.out⟩, ⟨by repeat (first | (with_reducible first | exact HB.out | apply below_alloc | apply pw_below_drewN | apply below_drew1 | refine below_set ?_ GE101.out) | exact HB.out)⟩⟩
  ·rw [if_neg c5] at H
   have c5b0 : ((l1_2.length : Int) == 0) = false := beq_eq_false_iff_ne.mpr c5
   have c5b1 : ((l1_2.length : Int) != 0) = true := bne_iff_ne.mpr c5
   have c5b2 : ¬ (l1_2 = []) := fun h_ => c5 (by rw [h_]; rfl)
   (first | rw [c5b0] | (simp only [i64_w, i32_w]; rw [c5b0]) | skip)
   by_cases c7 : (l1_2.length : Int) > 16
   ·rw [if_pos c7] at H
    have c7b0 : decide (16 < (l1_2.length : Int)) = true := decide_eq_true c7
    have c7b1 : decide (16 < l1_2.length) = true := decide_eq_true (by omega)
    clear c7
    have H' := Aside0.mk H
    clear H
    have hcz8_0 : w4.cell? ⟨gb101, 0, none⟩ = some (.int .u64 a1_0) := (blk_cell BK101.out 0).trans rfl
    have hcz8_1 : w4.cell? ⟨gb101, 1, none⟩ = some (.int .u64 a1_1) := (blk_cell BK101.out 1).trans rfl
    have hcz8_2 : w4.cell? ⟨gb101, 2, none⟩ = some (.slice A1_2 l1_2.length c1_2) := (blk_cell BK101.out 2).trans rfl
    have hfz8_0 := blk_frozen BK101.out 0
    have hfz8_1 := blk_frozen BK101.out 1
    have hfz8_2 := blk_frozen BK101.out 2
    go_wp2
    go_meet
    case rel => exact ⟨_, (true), (by first | rfl | (simp; done) | (simp [*]; done)), H', ⟨by first | omega | exact Nat.le_refl _⟩, ⟨by (with_reducible repeat (first | refine blk_drewN ?_ _ | refine blk_drew ?_ | refine blk_alloc ?_ _)); exact BK101.out⟩, ⟨by repeat (first | (with_reducible first | exact HB.out | apply below_alloc | apply pw_below_drewN | apply below_drew1 | refine below_set ?_ GE101.out) | exact HB.out)⟩⟩
   ·rw [if_neg c7] at H
    have c7b0 : decide (16 < (l1_2.length : Int)) = false := decide_eq_false c7
    have c7b1 : decide (16 < l1_2.length) = false := decide_eq_false (by omega)
    clear c7
    by_cases c9 : 0 < (l1_2.length : Int)
    ·rw [if_pos c9] at H
     have c9b0 : decide (0 < (l1_2.length : Int)) = true := decide_eq_true c9
     have c9b1 : decide (0 < l1_2.length) = true := decide_eq_true (by omega)
     clear c9
     have H' := Aside0.mk H
     clear H
     have hcz10_0 : w4.cell? ⟨gb101, 0, none⟩ = some (.int .u64 a1_0) := (blk_cell BK101.out 0).trans rfl
     have hcz10_1 : w4.cell? ⟨gb101, 1, none⟩ = some (.int .u64 a1_1) := (blk_cell BK101.out 1).trans rfl
     have hcz10_2 : w4.cell? ⟨gb101, 2, none⟩ = some (.slice A1_2 l1_2.length c1_2) := (blk_cell BK101.out 2).trans rfl
     have hfz10_0 := blk_frozen BK101.out 0
     have hfz10_1 := blk_frozen BK101.out 1
     have hfz10_2 := blk_frozen BK101.out 2
     have p102 : 0 ≤ (0 : Int) := (by omega)
     have q102 : 0 < (l1_2.length : Int) := of_decide_eq_true (by first | (with_reducible assumption) | assumption)
     obtain ⟨ad102, e102, hx102_0, hx102_1⟩ := at_T75 HR1_2.out 0 p102 q102
     cases e102
     have qi102 : (0 < l1_2.length) = True := eq_true (by omega)
     (try rw [show ((0 : Int)).toNat = 0 from rfl] at hx102_0)
     (try rw [show 0 * 2 = 0 from rfl] at hx102_0)
     (try rw [Addr.add_zero'] at hx102_0)
     (try rw [show ((0 : Int)).toNat = 0 from rfl] at hx102_1)
     (try rw [show 0 * 2 = 0 from rfl] at hx102_1)
     (try rw [Addr.add_zero'] at hx102_1)
     replace hx102_0 := (HB.out.cell (World.block_lt_of_cell? w _ hx102_0)).trans hx102_0
     replace hx102_1 := (HB.out.cell (World.block_lt_of_cell? w _ hx102_1)).trans hx102_1
     replace p102 := eq_true p102
     replace q102 := eq_true q102
     go_wp2
     go_meet
     case rel => exact ⟨_, ((((rd_T75 l1_2 0).f0) != 2)), (by first | rfl | (simp; done) | (simp [*]; done)), H', ⟨by first | omega | exact Nat.le_refl _⟩, ⟨by (with_reducible repeat (first | refine blk_drewN ?_ _ | refine blk_drew ?_ | refine blk_alloc ?_ _)); exact BK101.out⟩, ⟨by repeat (first | (with_reducible first | exact HB.out | apply below_alloc | apply pw_below_drewN | apply below_drew1 | refine below_set ?_ GE101.out) | exact HB.out)⟩⟩
    ·rw [if_neg c9] at H
     exact absurd H (by simp)
 case rest =>
  clear HC3
  try clear c1
  try clear p1
  try clear q1
  try clear hx1
  try clear qi1
  try clear p2
  try clear c5
  try clear c5b0
  try clear c5b1
  try clear c5b2
  try clear c7
  try clear c7b0
  try clear c7b1
  try clear c9
  try clear c9b0
  try clear c9b1
  try clear p10
  try clear q10
  try clear hx10
  try clear qi10
  try clear hcz10_0
  try clear hcz10_1
  try clear hcz10_2
  try clear hcz6_0
  try clear hcz6_1
  try clear hcz6_2
  try clear hcz8_0
  try clear hcz8_1
  try clear hcz8_2
  try clear hfz10_0
  try clear hfz10_1
  try clear hfz10_2
  try clear hfz6_0
  try clear hfz6_1
  try clear hfz6_2
  try clear hfz8_0
  try clear hfz8_1
  try clear hfz8_2
  try clear hx102_0
  try clear hx102_1
  try clear p102
  try clear q102
  obtain ⟨kq, x27_2, rfl, HA, HJ2, BK101, HB⟩ := hcut
  cases kq with
  | zero => exact absurd HA.out (by simp [proof_whole.j0])
  | succ kj2 =>
   have H := HA.out
   clear HA
   simp only [proof_whole.j0] at H
   by_cases c11 : x27_2 = true
   ·subst c11
    have H1 : (some false) = some r := by rw [if_pos rfl] at H <;> exact H
    clear H
    have H := H1
    clear H1
    obtain rfl := Option.some.inj H
    go_wp2
    go_ret
    exact ⟨by first | rfl | (simp [errW_none, errW_some] <;> rfl) | (simp [*, errW_none, errW_some] <;> rfl), by repeat (first | (with_reducible first | exact HB.out | apply below_alloc | apply pw_below_drewN | apply below_drew1 | refine below_set ?_ GE101.out) | exact HB.out)⟩
   ·replace c11 := Bool.eq_false_iff.mpr c11
    subst c11
    have H1 : (proof_whole.l0 kj2 l0 1 l1_2 (l1_2.length : Int) 0 a1_0 a1_1 l1_2) = some r := by rw [if_neg (show ¬ (false = true) by decide)] at H <;> exact H
    clear H
    have H := H1
    clear H1
    have H' := Aside0.mk H
    clear H
    have hcz12_0 : wc.cell? ⟨gb101, 0, none⟩ = some (.int .u64 a1_0) := (blk_cell BK101.out 0).trans rfl
    have hcz12_1 : wc.cell? ⟨gb101, 1, none⟩ = some (.int .u64 a1_1) := (blk_cell BK101.out 1).trans rfl
    have hcz12_2 : wc.cell? ⟨gb101, 2, none⟩ = some (.slice A1_2 l1_2.length c1_2) := (blk_cell BK101.out 2).trans rfl
    have hfz12_0 := blk_frozen BK101.out 0
    have hfz12_1 := blk_frozen BK101.out 1
    have hfz12_2 := blk_frozen BK101.out 2
    go_wp2
    go_loopg [5, 31] kj2 (fun kq v5 v31 w' => ∃ (x5_2 : Int) (x31_2 : Int), v5 = .int .u64 x5_2 ∧ v31 = .int .i64 x31_2 ∧ Aside0 (proof_whole.l0 kq l0 x5_2 l1_2 (l1_2.length : Int) x31_2 a1_0 a1_1 l1_2 = some r) ∧ Aside0 (kq ≤ kj2) ∧ Aside0 (w'.heap[gb101]? = some (.cells #[.int .u64 a1_0, .int .u64 a1_1, (.slice A1_2 l1_2.length c1_2)] 58 (0, 0))) ∧ Aside0 (Below w.heap.size w w'))
    case atStart => exact ⟨(1), (0), (by first | rfl | (simp; done) | (simp [*]; done)), (by first | rfl | (simp; done) | (simp [*]; done)), H', ⟨Nat.le_refl _⟩, ⟨by (with_reducible repeat (first | refine blk_drewN ?_ _ | refine blk_drew ?_ | refine blk_alloc ?_ _)); exact BK101.out⟩, ⟨by repeat (first | (with_reducible first | exact HB.out | apply below_alloc | apply pw_below_drewN | apply below_drew1 | refine below_set ?_ GE101.out) | exact HB.out)⟩⟩
    case round =>
     clear H'
     try clear c1
     try clear p1
     try clear q1
     try clear hx1
     try clear qi1
     try clear p2
     try clear c5
     try clear c5b0
     try clear c5b1
     try clear c5b2
     try clear c7
     try clear c7b0
     try clear c7b1
     try clear c9
     try clear c9b0
     try clear c9b1
     try clear p10
     try clear q10
     try clear hx10
     try clear qi10
     try clear c11
     try clear hcz10_0
     try clear hcz10_1
     try clear hcz10_2
     try clear hcz12_0
     try clear hcz12_1
     try clear hcz12_2
     try clear hcz6_0
     try clear hcz6_1
     try clear hcz6_2
     try clear hcz8_0
     try clear hcz8_1
     try clear hcz8_2
     try clear hfz10_0
     try clear hfz10_1
     try clear hfz10_2
     try clear hfz12_0
     try clear hfz12_1
     try clear hfz12_2
     try clear hfz6_0
     try clear hfz6_1
     try clear hfz6_2
     try clear hfz8_0
     try clear hfz8_1
     try clear hfz8_2
     try clear hx102_0
     try clear hx102_1
     try clear p1
     try clear p10
     try clear p102
     try clear p2
     try clear q1
     try clear q10
     try clear q102
     obtain ⟨x5_2, x31_2, rfl, rfl, HA, HK2, BK101, HB⟩ := hrel
     cases gk with
     | zero => exact absurd HA.out (by simp [proof_whole.l0])
     | succ k2 =>
      have H := HA.out
      clear HA
      simp only [proof_whole.l0] at H
      by_cases c13 : x31_2 < (l1_2.length : Int)
      ·rw [if_pos c13] at H
       have c13b0 : decide (x31_2 < (l1_2.length : Int)) = true := decide_eq_true c13
       clear c13
       by_cases c14 : 0 ≤ x31_2
       ·rw [if_pos c14] at H
        have c14b0 : decide (0 ≤ x31_2) = true := decide_eq_true c14
        clear c14
        by_cases c15 : x31_2 < (l1_2.length : Int)
        ·rw [if_pos c15] at H
         have c15b0 : decide (x31_2 < (l1_2.length : Int)) = true := decide_eq_true c15
         clear c15
         have HC16 := Aside0.mk H
         clear H
         have p103 : 0 ≤ (x31_2 : Int) := of_decide_eq_true (by first | (with_reducible assumption) | assumption)
         have q103 : x31_2 < (l1_2.length : Int) := of_decide_eq_true (by first | (with_reducible assumption) | assumption)
         obtain ⟨ad103, e103, hx103_0, hx103_1⟩ := at_T75 HR1_2.out x31_2 p103 q103
         cases e103
         replace hx103_0 := (HB.out.cell (World.block_lt_of_cell? w _ hx103_0)).trans hx103_0
         replace hx103_1 := (HB.out.cell (World.block_lt_of_cell? w _ hx103_1)).trans hx103_1
         replace p103 := eq_true p103
         replace q103 := eq_true q103
         go_upto_region 7 with (first | ((with_reducible refine gate_dst (N := 7) rfl ?_); (try (refine gate_guard (by rfl) ?_; dsimp only)); refine box_event ?hg (N := 7) ?hd (cs := #[.int .u64 0, .int .i64 0]) (t := 75) ?hr ?_; (case hd => rfl); (case hg => rfl); (case hr => first | (go_simp; done) | (go_simp; rfl)); intro gb104 hg w17 hbox hb; have n0_ := Aside0.mk (blk_below (g := gb101) (o := .cells #[.int .u64 a1_0, .int .u64 a1_1, .slice (some ad103) l1_2.length c1_2] 58 (0, 0)) (by (with_reducible repeat (first | refine blk_drewN ?_ _ | refine blk_drew ?_ | refine blk_alloc ?_ _)); exact BK101.out) hb); have n1_ := Aside0.mk (below_step (by repeat (first | (with_reducible first | exact HB.out | apply below_alloc | apply pw_below_drewN | apply below_drew1 | refine below_set ?_ GE101.out) | exact HB.out)) hb); have n2_ := Aside0.mk (hbox); have n3_ := Aside0.mk ((by rw [hg]; exact (below_size (by repeat (first | (with_reducible first | exact HB.out | apply below_alloc | apply pw_below_drewN | apply below_drew1 | refine below_set ?_ GE101.out) | exact HB.out))) : w.heap.size ≤ gb104)); have n4_ := Aside0.mk ((by rw [hg]; exact (below_size (by repeat (first | (with_reducible first | exact HB.out | apply below_alloc | apply pw_below_drewN | apply below_drew1 | refine below_set ?_ GE101.out) | exact HB.out))) : w.heap.size ≤ gb104)); have n5_ := Aside0.mk ((by rw [hg]; exact Nat.ne_of_lt (blk_lt (g := gb101) (o := .cells #[.int .u64 a1_0, .int .u64 a1_1, .slice (some ad103) l1_2.length c1_2] 58 (0, 0)) (by (with_reducible repeat (first | refine blk_drewN ?_ _ | refine blk_drew ?_ | refine blk_alloc ?_ _)); exact BK101.out)) : gb101 ≠ gb104)); have n6_ := Aside0.mk ((by rw [hg]; exact Nat.ne_of_gt (blk_lt (g := gb101) (o := .cells #[.int .u64 a1_0, .int .u64 a1_1, .slice (some ad103) l1_2.length c1_2] 58 (0, 0)) (by (with_reducible repeat (first | refine blk_drewN ?_ _ | refine blk_drew ?_ | refine blk_alloc ?_ _)); exact BK101.out)) : gb104 ≠ gb101)); clear BK101; clear HB; have BK101 := n0_; have HB := n1_; have BK104 := n2_; have GW104 := n3_; have GE104 := n4_; have NB101_104 := n5_; have NB104_101 := n6_; clear n0_ n1_ n2_ n3_ n4_ n5_ n6_; clear hb hbox hg; have hnb18 := NB104_101.out; have hnc18 := NB101_104.out; have hcz19_0 : w17.cell? ⟨gb104, 0, none⟩ = some (.int .u64 0) := (blk_cell BK104.out 0).trans rfl; have hcz19_1 : w17.cell? ⟨gb104, 1, none⟩ = some (.int .i64 0) := (blk_cell BK104.out 1).trans rfl; have hfz19_0 := blk_frozen BK104.out 0; have hfz19_1 := blk_frozen BK104.out 1))
         (try simp only [Act.put, List.setIfInBounds_toArray, List.set_cons_zero, List.set_cons_succ])
         go_cut [43] (fun v43 wc => ∃ (kq : Nat) (x43_15 : Bool), v43 = .bool x43_15 ∧ Aside0 (proof_whole.j2 kq l0 x5_2 x31_2 l1_2 (l1_2.length : Int) x31_2 x43_15 a1_0 a1_1 l1_2 ((rd_T75 l1_2 x31_2).f0) ((rd_T75 l1_2 x31_2).f1) = some r) ∧ Aside0 (kq ≤ k2) ∧ Aside0 (wc.heap[gb101]? = some (.cells #[.int .u64 a1_0, .int .u64 a1_1, (.slice (some ad103) l1_2.length c1_2)] 58 (0, 0))) ∧ Aside0 (wc.heap[gb104]? = some (.cells #[.int .u64 ((rd_T75 l1_2 x31_2).f0), .int .i64 ((rd_T75 l1_2 x31_2).f1)] 75 (0, 0))) ∧ Aside0 (Below w.heap.size w wc))
         case first =>
          have H := HC16.out
          clear HC16
          by_cases c20 : ((rd_T75 l1_2 x31_2).f1) < 1
          ·rw [if_pos c20] at H
           have c20b0 : decide (((rd_T75 l1_2 x31_2).f1) < 1) = true := decide_eq_true c20
           clear c20
           (first | rw [c20b0] | (simp only [i64_w, i32_w]; rw [c20b0]) | skip)
           have H' := Aside0.mk H
           clear H
           have hnb21 := NB104_101.out
           have hnc21 := NB101_104.out
           have hcz22_0 : w17.cell? ⟨gb104, 0, none⟩ = some (.int .u64 0) := (blk_cell BK104.out 0).trans rfl
           have hcz22_1 : w17.cell? ⟨gb104, 1, none⟩ = some (.int .i64 0) := (blk_cell BK104.out 1).trans rfl
           have hfz22_0 := blk_frozen BK104.out 0
           have hfz22_1 := blk_frozen BK104.out 1
           go_wp2
           go_meet
           case rel => exact ⟨_, (true), (by first | rfl | (simp; done) | (simp [*]; done)), H', ⟨by have := HJ2.out; have := HK2.out; first | omega | exact Nat.le_refl _⟩, ⟨by (with_reducible repeat (first | refine blk_drewN ?_ _ | refine blk_drew ?_ | refine blk_alloc ?_ _)); refine blk_far ?_ NB101_104.out _; (with_reducible repeat (first | refine blk_drewN ?_ _ | refine blk_drew ?_ | refine blk_alloc ?_ _)); refine blk_far ?_ NB101_104.out _; (with_reducible repeat (first | refine blk_drewN ?_ _ | refine blk_drew ?_ | refine blk_alloc ?_ _)); exact BK101.out⟩, ⟨by (with_reducible repeat (first | refine blk_drewN ?_ _ | refine blk_drew ?_ | refine blk_alloc ?_ _)); refine blk_put (cs := #[.int .u64 ((rd_T75 l1_2 x31_2).f0), .int .i64 0]) ?_ 1 _ rfl; (with_reducible repeat (first | refine blk_drewN ?_ _ | refine blk_drew ?_ | refine blk_alloc ?_ _)); refine blk_put (cs := #[.int .u64 0, .int .i64 0]) ?_ 0 _ rfl; (with_reducible repeat (first | refine blk_drewN ?_ _ | refine blk_drew ?_ | refine blk_alloc ?_ _)); exact BK104.out⟩, ⟨by repeat (first | (with_reducible first | exact HB.out | apply below_alloc | apply pw_below_drewN | apply below_drew1 | refine below_set ?_ GE101.out | refine below_set ?_ GE104.out) | exact HB.out)⟩⟩
          ·rw [if_neg c20] at H
           have c20b0 : decide (((rd_T75 l1_2 x31_2).f1) < 1) = false := decide_eq_false c20
           clear c20
           (first | rw [c20b0] | (simp only [i64_w, i32_w]; rw [c20b0]) | skip)
           have H' := Aside0.mk H
           clear H
           have hnb23 := NB104_101.out
           have hnc23 := NB101_104.out
           have hcz24_0 : w17.cell? ⟨gb104, 0, none⟩ = some (.int .u64 0) := (blk_cell BK104.out 0).trans rfl
           have hcz24_1 : w17.cell? ⟨gb104, 1, none⟩ = some (.int .i64 0) := (blk_cell BK104.out 1).trans rfl
           have hfz24_0 := blk_frozen BK104.out 0
           have hfz24_1 := blk_frozen BK104.out 1
           go_wp2
           go_meet
           case rel => exact ⟨_, (decide (((rd_T75 l1_2 x31_2).f1) > 62)), (by first | rfl | (simp; done) | (simp [*]; done)), H', ⟨by have := HJ2.out; have := HK2.out; first | omega | exact Nat.le_refl _⟩, ⟨by (with_reducible repeat (first | refine blk_drewN ?_ _ | refine blk_drew ?_ | refine blk_alloc ?_ _)); refine blk_far ?_ NB101_104.out _; (with_reducible repeat (first | refine blk_drewN ?_ _ | refine blk_drew ?_ | refine blk_alloc ?_ _)); refine blk_far ?_ NB101_104.out _; (with_reducible repeat (first | refine blk_drewN ?_ _ | refine blk_drew ?_ | refine blk_alloc ?_ _)); exact BK101.out⟩, ⟨by (with_reducible repeat (first | refine blk_drewN ?_ _ | refine blk_drew ?_ | refine blk_alloc ?_ _)); refine blk_put (cs := #[.int .u64 ((rd_T75 l1_2 x31_2).f0), .int .i64 0]) ?_ 1 _ rfl; (with_reducible repeat (first | refine blk_drewN ?_ _ | refine blk_drew ?_ | refine blk_alloc ?_ _)); refine blk_put (cs := #[.int .u64 0, .int .i64 0]) ?_ 0 _ rfl; (with_reducible repeat (first | refine blk_drewN ?_ _ | refine blk_drew ?_ | refine blk_alloc ?_ _)); exact BK104.out⟩, ⟨by repeat (first | (with_reducible first | exact HB.out | apply below_alloc | apply pw_below_drewN | apply below_drew1 | refine below_set ?_ GE101.out | refine below_set ?_ GE104.out) | exact HB.out)⟩⟩
         case rest =>
          clear HC16
          try clear c1
          try clear p1
          try clear q1
          try clear hx1
          try clear qi1
          try clear c2
          try clear p2
          try clear c5
          try clear c5b0
          try clear c5b1
          try clear c5b2
          try clear c7
          try clear c7b0
          try clear c7b1
          try clear c9
          try clear c9b0
          try clear c9b1
          try clear p10
          try clear q10
          try clear hx10
          try clear qi10
          try clear c11
          try clear c13
          try clear c13b0
          try clear c14
          try clear c14b0
          try clear c15
          try clear c15b0
          try clear c18
          try clear c20
          try clear c20b0
          try clear c21
          try clear c23
          try clear hcz10_0
          try clear hcz10_1
          try clear hcz10_2
          try clear hcz12_0
          try clear hcz12_1
          try clear hcz12_2
          try clear hcz19_0
          try clear hcz19_1
          try clear hcz22_0
          try clear hcz22_1
          try clear hcz24_0
          try clear hcz24_1
          try clear hcz6_0
          try clear hcz6_1
          try clear hcz6_2
          try clear hcz8_0
          try clear hcz8_1
          try clear hcz8_2
          try clear hfz10_0
          try clear hfz10_1
          try clear hfz10_2
          try clear hfz12_0
          try clear hfz12_1
          try clear hfz12_2
          try clear hfz19_0
          try clear hfz19_1
          try clear hfz22_0
          try clear hfz22_1
          try clear hfz24_0
          try clear hfz24_1
          try clear hfz6_0
          try clear hfz6_1
          try clear hfz6_2
          try clear hfz8_0
          try clear hfz8_1
          try clear hfz8_2
          try clear hx102_0
          try clear hx102_1
          try clear hx103_0
          try clear hx103_1
          try clear p1
          try clear p10
          try clear p102
          try clear p103
          try clear p2
          try clear q1
          try clear q10
          try clear q102
          try clear q103
          obtain ⟨kq, x43_15, rfl, HA, HJ15, BK101, BK104, HB⟩ := hcut
          cases kq with
          | zero => exact absurd HA.out (by simp [proof_whole.j2])
          | succ kj15 =>
           have H := HA.out
           clear HA
           simp only [proof_whole.j2] at H
           by_cases c25 : x43_15 = true
           ·subst c25
            have H1 : (some false) = some r := by rw [if_pos rfl] at H <;> exact H
            clear H
            have H := H1
            clear H1
            obtain rfl := Option.some.inj H
            go_wp2
            go_ret
            exact ⟨by first | rfl | (simp [errW_none, errW_some] <;> rfl) | (simp [*, errW_none, errW_some] <;> rfl), by repeat (first | (with_reducible first | exact HB.out | apply below_alloc | apply pw_below_drewN | apply below_drew1 | refine below_set ?_ GE101.out | refine below_set ?_ GE104.out) | exact HB.out)⟩
           ·replace c25 := Bool.eq_false_iff.mpr c25
            subst c25
            have H1 : (if x31_2 > 0 then (if 0 ≤ (wrap64 (x31_2 - 1)) then (if (wrap64 (x31_2 - 1)) < (l1_2.length : Int) then (if ((rd_T75 l1_2 x31_2).f0) ≤ ((rd_T75 l1_2 (wrap64 (x31_2 - 1))).f0) then (proof_whole.j3 kj15 l0 x5_2 l1_2 (l1_2.length : Int) x31_2 true a1_0 a1_1 l1_2 ((rd_T75 l1_2 x31_2).f0) ((rd_T75 l1_2 x31_2).f1)) else ((proof_claimed.f l0 ((rd_T75 l1_2 x31_2).f0)).bind fun t106 => (proof_whole.j3 kj15 l0 x5_2 l1_2 (l1_2.length : Int) x31_2 (!t106) a1_0 a1_1 l1_2 ((rd_T75 l1_2 x31_2).f0) ((rd_T75 l1_2 x31_2).f1)))) else (none)) else (none)) else (proof_whole.j3 kj15 l0 x5_2 l1_2 (l1_2.length : Int) x31_2 false a1_0 a1_1 l1_2 ((rd_T75 l1_2 x31_2).f0) ((rd_T75 l1_2 x31_2).f1))) = some r := by rw [if_neg (show ¬ (false = true) by decide)] at H <;> exact H
            clear H
            have H := H1
            clear H1
            have HC26 := Aside0.mk H
            clear H
            go_upto_region 9 with (fail)
            go_cut [64] (fun v64 wc => ∃ (kq : Nat) (x64_25 : Bool), v64 = .bool x64_25 ∧ Aside0 (proof_whole.j3 kq l0 x5_2 l1_2 (l1_2.length : Int) x31_2 x64_25 a1_0 a1_1 l1_2 ((rd_T75 l1_2 x31_2).f0) ((rd_T75 l1_2 x31_2).f1) = some r) ∧ Aside0 (kq ≤ kj15) ∧ Aside0 (wc.heap[gb101]? = some (.cells #[.int .u64 a1_0, .int .u64 a1_1, (.slice (some ad103) l1_2.length c1_2)] 58 (0, 0))) ∧ Aside0 (wc.heap[gb104]? = some (.cells #[.int .u64 ((rd_T75 l1_2 x31_2).f0), .int .i64 ((rd_T75 l1_2 x31_2).f1)] 75 (0, 0))) ∧ Aside0 (Below w.heap.size w wc))
            case first =>
             have H := HC26.out
             clear HC26
             by_cases c27 : x31_2 > 0
             ·rw [if_pos c27] at H
              have c27b0 : decide (0 < x31_2) = true := decide_eq_true c27
              clear c27
              (first | rw [c27b0] | (simp only [i64_w, i32_w]; rw [c27b0]) | skip)
              obtain ⟨ji28, hji28⟩ : ∃ j_ : Int, (wrap64 (x31_2 - 1)) = j_ := ⟨_, rfl⟩
              replace H : (if 0 ≤ (ji28) then (if (ji28) < (l1_2.length : Int) then (if ((rd_T75 l1_2 x31_2).f0) ≤ ((rd_T75 l1_2 (ji28)).f0) then (proof_whole.j3 kj15 l0 x5_2 l1_2 (l1_2.length : Int) x31_2 true a1_0 a1_1 l1_2 ((rd_T75 l1_2 x31_2).f0) ((rd_T75 l1_2 x31_2).f1)) else ((proof_claimed.f l0 ((rd_T75 l1_2 x31_2).f0)).bind fun t106 => (proof_whole.j3 kj15 l0 x5_2 l1_2 (l1_2.length : Int) x31_2 (!t106) a1_0 a1_1 l1_2 ((rd_T75 l1_2 x31_2).f0) ((rd_T75 l1_2 x31_2).f1)))) else (none)) else (none)) = some r := by first | (rw [hji28] at H <;> exact H) | (simp only [hji28] at H ⊢; exact H)
              have hji28w : (IntKind.i64.wrap (x31_2 - 1)) = ji28 := (i64_w _).trans hji28
              by_cases c29 : 0 ≤ (ji28)
              ·rw [if_pos c29] at H
               have c29b0 : decide (0 ≤ (ji28)) = true := decide_eq_true c29
               clear c29
               by_cases c30 : (ji28) < (l1_2.length : Int)
               ·rw [if_pos c30] at H
                have c30b0 : decide ((ji28) < (l1_2.length : Int)) = true := decide_eq_true c30
                clear c30
                by_cases c31 : ((rd_T75 l1_2 x31_2).f0) ≤ ((rd_T75 l1_2 (ji28)).f0)
                ·rw [if_pos c31] at H
                 have c31b0 : decide (((rd_T75 l1_2 x31_2).f0) ≤ ((rd_T75 l1_2 (ji28)).f0)) = true := decide_eq_true c31
                 clear c31
                 have H' := Aside0.mk H
                 clear H
                 try go_wp2
                 have n0_ := Aside0.mk (blk_drew BK101.out)
                 have n1_ := Aside0.mk (blk_drew BK104.out)
                 have n2_ := Aside0.mk (below_drew1 HB.out)
                 clear BK101
                 clear BK104
                 clear HB
                 have BK101 := n0_
                 have BK104 := n1_
                 have HB := n2_
                 clear n0_ n1_ n2_
                 have p105 : 0 ≤ ((ji28) : Int) := of_decide_eq_true (by first | (with_reducible assumption) | assumption)
                 have q105 : (ji28) < (l1_2.length : Int) := of_decide_eq_true (by first | (with_reducible assumption) | assumption)
                 obtain ⟨ad105, e105, hx105_0, hx105_1⟩ := at_T75 HR1_2.out (ji28) p105 q105
                 have hw105_1 := hx105_1
                 have hw105_0 := hx105_0
                 obtain rfl : ad103 = ad105 := (by injection e105)
                 replace hx105_0 := (HB.out.cell (World.block_lt_of_cell? w _ hx105_0)).trans hx105_0
                 replace hx105_1 := (HB.out.cell (World.block_lt_of_cell? w _ hx105_1)).trans hx105_1
                 replace p105 := eq_true p105
                 replace q105 := eq_true q105
                 refine start_ (n := 21) (S := fun w' => w'.cell? ⟨gb104, 0, none⟩ = some (.int .u64 ((rd_T75 l1_2 x31_2).f0)) ∧ w'.cell? ⟨gb104, 1, none⟩ = some (.int .i64 ((rd_T75 l1_2 x31_2).f1)) ∧ w'.cell? ⟨gb101, 0, none⟩ = some (.int .u64 a1_0) ∧ w'.cell? ⟨gb101, 1, none⟩ = some (.int .u64 a1_1) ∧ w'.cell? ⟨gb101, 2, none⟩ = some (.slice (some ad103) l1_2.length c1_2) ∧ w'.cell? (ad103.add (((ji28)).toNat * 2)) = some (.int .u64 ((rd_T75 l1_2 (ji28)).f0)) ∧ w'.cell? ⟨(ad103.add (((ji28)).toNat * 2)).block, (ad103.add (((ji28)).toNat * 2)).off + 1, none⟩ = some (.int .i64 ((rd_T75 l1_2 (ji28)).f1))) (ds := []) #[false, false, false, false, false, false, false, false, false, false, false, false, false, false, false, false, false, false, false, false, false] (by kernel_rfl) rfl rfl ⟨(blk_cell BK104.out 0).trans rfl, (blk_cell BK104.out 1).trans rfl, (blk_cell BK101.out 0).trans rfl, (blk_cell BK101.out 1).trans rfl, (blk_cell BK101.out 2).trans rfl, ((HB.out.cell (World.block_lt_of_cell? w _ hw105_0)).trans hw105_0), ((HB.out.cell (World.block_lt_of_cell? w _ hw105_1)).trans hw105_1)⟩ (fun hHeld => ?_); refine with_tabW proof_whole.tab9 proof_whole.bits9 (fun HT_ HW_ => ?_)
                 generalize wc.drew = w32 at BK101 BK104 HB hx105_0 hx105_1 hHeld ⊢
                 refine pure_ (i := 0) (N := some 44) (v := ?_) (a' := ?_) #[true, false, false, false, false, false, false, false, false, false, false, false, false, false, false, false, false, false, false, false, false] rfl rfl (any_of HT_.out (by kernel_rfl)) (fun _ _ _ h => h) (Or.inl ⟨by rfl, ?_⟩) ?_ ?_
                 rotate_left
                 ·intro w'
                  go_simp
                  with_reducible rfl
                 rotate_left
                 ·simp only [Act.put, List.setIfInBounds_toArray, List.set_cons_zero, List.set_cons_succ, i64_w, i32_w]
                  rfl
                 refine pure_ (i := 1) (N := some 45) (v := ?_) (a' := ?_) #[true, true, false, false, false, false, false, false, false, false, false, false, false, false, false, false, false, false, false, false, false] rfl rfl (any_of HT_.out (by kernel_rfl)) (fun _ _ _ h => h) (Or.inl ⟨by rfl, ?_⟩) ?_ ?_
                 rotate_left
                 ·intro w'
                  go_simp
                  with_reducible rfl
                 rotate_left
                 ·simp only [Act.put, List.setIfInBounds_toArray, List.set_cons_zero, List.set_cons_succ, i64_w, i32_w]
                  rfl
                 refine pure_ (i := 2) (N := some 46) (v := ?_) (a' := ?_) #[true, true, true, false, false, false, false, false, false, false, false, false, false, false, false, false, false, false, false, false, false] rfl rfl (any_of HT_.out (by kernel_rfl)) (fun _ _ _ h => h) (Or.inl ⟨by rfl, ?_⟩) ?_ ?_
                 rotate_left
                 ·intro w'
                  go_simp
                  with_reducible rfl
                 rotate_left
                 ·simp only [Act.put, List.setIfInBounds_toArray, List.set_cons_zero, List.set_cons_succ, i64_w, i32_w]
                  rfl
                 refine pure_ (i := 3) (N := some 47) (v := ?_) (a' := ?_) #[true, true, true, true, false, false, false, false, false, false, false, false, false, false, false, false, false, false, false, false, false] rfl rfl (any_of HT_.out (by kernel_rfl)) (fun _ _ _ h => h) (Or.inl ⟨by rfl, ?_⟩) ?_ ?_
                 rotate_left
                 ·intro w'
                  go_simp
                  with_reducible rfl
                 rotate_left
                 ·simp only [Act.put, List.setIfInBounds_toArray, List.set_cons_zero, List.set_cons_succ, i64_w, i32_w]
                  rfl
                 refine pure_ (i := 5) (N := some 49) (v := ?_) (a' := ?_) #[true, true, true, true, false, true, false, false, false, false, false, false, false, false, false, false, false, false, false, false, false] rfl rfl (any_of HT_.out (by kernel_rfl)) (fun _ _ _ h => h) (Or.inl ⟨by rfl, ?_⟩) ?_ ?_
                 rotate_left
                 ·intro w'
                  go_simp
                  with_reducible rfl
                 rotate_left
                 ·simp only [Act.put, List.setIfInBounds_toArray, List.set_cons_zero, List.set_cons_succ, i64_w, i32_w]
                  rfl
                 refine pure_ (i := 7) (N := some 51) (v := ?_) (a' := ?_) #[true, true, true, true, false, true, false, true, false, false, false, false, false, false, false, false, false, false, false, false, false] rfl rfl (any_of HT_.out (by kernel_rfl)) (fun _ _ _ h => h) (Or.inl ⟨by rfl, ?_⟩) ?_ ?_
                 rotate_left
                 ·intro w'
                  go_simp
                  with_reducible rfl
                 rotate_left
                 ·simp only [Act.put, List.setIfInBounds_toArray, List.set_cons_zero, List.set_cons_succ, i64_w, i32_w]
                  rfl
                 refine pure_ (i := 8) (N := some 52) (v := ?_) (a' := ?_) #[true, true, true, true, false, true, false, true, true, false, false, false, false, false, false, false, false, false, false, false, false] rfl rfl (any_of HT_.out (by kernel_rfl)) (fun _ _ _ h => h) (Or.inl ⟨by rfl, ?_⟩) ?_ ?_
                 rotate_left
                 ·intro w'
                  go_simp
                  with_reducible rfl
                 rotate_left
                 ·simp only [Act.put, List.setIfInBounds_toArray, List.set_cons_zero, List.set_cons_succ, i64_w, i32_w]
                  rfl
                 refine take_ (i := 4) (N := some 48) (v := ?_) (a' := ?_) #[true, true, true, true, true, true, false, true, true, false, false, false, false, false, false, false, false, false, false, false, false] rfl rfl (take_ofW HT_.out HW_.out (by kernel_rfl)) (fun _ _ _ h => h) (Or.inl ⟨by rfl, ?_⟩) hHeld ?_ ?_
                 rotate_left
                 ·rintro w' ⟨s0, s1, s2, s3, s4, s5, s6⟩
                  go_simp
                  with_reducible rfl
                 rotate_left
                 ·simp only [Act.put, List.setIfInBounds_toArray, List.set_cons_zero, List.set_cons_succ, i64_w, i32_w]
                  rfl
                 refine take_ (i := 6) (N := some 50) (v := ?_) (a' := ?_) #[true, true, true, true, true, true, true, true, true, false, false, false, false, false, false, false, false, false, false, false, false] rfl rfl (take_ofW HT_.out HW_.out (by kernel_rfl)) (fun _ _ _ h => h) (Or.inl ⟨by rfl, ?_⟩) hHeld ?_ ?_
                 rotate_left
                 ·rintro w' ⟨s0, s1, s2, s3, s4, s5, s6⟩
                  go_simp
                  with_reducible rfl
                 rotate_left
                 ·simp only [Act.put, List.setIfInBounds_toArray, List.set_cons_zero, List.set_cons_succ, i64_w, i32_w]
                  rfl
                 refine pure_ (i := 9) (N := some 53) (v := ?_) (a' := ?_) #[true, true, true, true, true, true, true, true, true, true, false, false, false, false, false, false, false, false, false, false, false] rfl rfl (any_of HT_.out (by kernel_rfl)) (fun _ _ _ h => h) (Or.inl ⟨by rfl, ?_⟩) ?_ ?_
                 rotate_left
                 ·intro w'
                  go_simp
                  with_reducible rfl
                 rotate_left
                 ·simp only [Act.put, List.setIfInBounds_toArray, List.set_cons_zero, List.set_cons_succ, i64_w, i32_w]
                  rfl
                 refine pure_ (i := 10) (N := some 54) (v := ?_) (a' := ?_) #[true, true, true, true, true, true, true, true, true, true, true, false, false, false, false, false, false, false, false, false, false] rfl rfl (any_of HT_.out (by kernel_rfl)) (fun _ _ _ h => h) (Or.inl ⟨by rfl, ?_⟩) ?_ ?_
                 rotate_left
                 ·intro w'
                  go_simp
                  with_reducible rfl
                 rotate_left
                 ·simp only [Act.put, List.setIfInBounds_toArray, List.set_cons_zero, List.set_cons_succ, i64_w, i32_w]
                  rfl
                 refine take_ (i := 11) (N := some 55) (v := ?_) (a' := ?_) #[true, true, true, true, true, true, true, true, true, true, true, true, false, false, false, false, false, false, false, false, false] rfl rfl (take_ofW HT_.out HW_.out (by kernel_rfl)) (fun _ _ _ h => h) (Or.inl ⟨by rfl, ?_⟩) hHeld ?_ ?_
                 rotate_left
                 ·rintro w' ⟨s0, s1, s2, s3, s4, s5, s6⟩
                  go_simp
                  with_reducible rfl
                 rotate_left
                 ·simp only [Act.put, List.setIfInBounds_toArray, List.set_cons_zero, List.set_cons_succ, i64_w, i32_w]
                  rfl
                 refine pure_ (i := 12) (N := some 56) (v := ?_) (a' := ?_) #[true, true, true, true, true, true, true, true, true, true, true, true, true, false, false, false, false, false, false, false, false] rfl rfl (any_of HT_.out (by kernel_rfl)) (fun _ _ _ h => h) (Or.inl ⟨by rfl, ?_⟩) ?_ ?_
                 rotate_left
                 ·intro w'
                  go_simp
                  with_reducible rfl
                 rotate_left
                 ·simp only [Act.put, List.setIfInBounds_toArray, List.set_cons_zero, List.set_cons_succ, i64_w, i32_w]
                  rfl
                 refine pure_ (i := 13) (N := some 57) (v := ?_) (a' := ?_) #[true, true, true, true, true, true, true, true, true, true, true, true, true, true, false, false, false, false, false, false, false] rfl rfl (any_of HT_.out (by kernel_rfl)) (fun _ _ _ h => h) (Or.inl ⟨by rfl, ?_⟩) ?_ ?_
                 rotate_left
                 ·intro w'
                  go_simp
                  with_reducible rfl
                 rotate_left
                 ·simp only [Act.put, List.setIfInBounds_toArray, List.set_cons_zero, List.set_cons_succ, i64_w, i32_w]
                  rfl
                 refine pure_ (i := 14) (N := some 58) (v := undef) (a' := ?_) #[true, true, true, true, true, true, true, true, true, true, true, true, true, true, true, false, false, false, false, false, false] rfl rfl (any_of HT_.out (by kernel_rfl)) (fun _ _ _ h => h) (Or.inr ⟨by rfl, rfl⟩) ?_ ?_
                 rotate_left
                 ·simp only [Act.put, List.setIfInBounds_toArray, List.set_cons_zero, List.set_cons_succ, i64_w, i32_w]
                  rfl
                 refine pure_ (i := 15) (N := some 59) (v := undef) (a' := ?_) #[true, true, true, true, true, true, true, true, true, true, true, true, true, true, true, true, false, false, false, false, false] rfl rfl (any_of HT_.out (by kernel_rfl)) (fun _ _ _ h => h) (Or.inr ⟨by rfl, rfl⟩) ?_ ?_
                 rotate_left
                 ·simp only [Act.put, List.setIfInBounds_toArray, List.set_cons_zero, List.set_cons_succ, i64_w, i32_w]
                  rfl
                 refine pure_ (i := 16) (N := some 60) (v := undef) (a' := ?_) #[true, true, true, true, true, true, true, true, true, true, true, true, true, true, true, true, true, false, false, false, false] rfl rfl (any_of HT_.out (by kernel_rfl)) (fun _ _ _ h => h) (Or.inr ⟨by rfl, rfl⟩) ?_ ?_
                 rotate_left
                 ·simp only [Act.put, List.setIfInBounds_toArray, List.set_cons_zero, List.set_cons_succ, i64_w, i32_w]
                  rfl
                 refine pure_ (i := 17) (N := some 61) (v := undef) (a' := ?_) #[true, true, true, true, true, true, true, true, true, true, true, true, true, true, true, true, true, true, false, false, false] rfl rfl (any_of HT_.out (by kernel_rfl)) (fun _ _ _ h => h) (Or.inr ⟨by rfl, rfl⟩) ?_ ?_
                 rotate_left
                 ·simp only [Act.put, List.setIfInBounds_toArray, List.set_cons_zero, List.set_cons_succ, i64_w, i32_w]
                  rfl
                 refine pure_ (i := 18) (N := some 62) (v := undef) (a' := ?_) #[true, true, true, true, true, true, true, true, true, true, true, true, true, true, true, true, true, true, true, false, false] rfl rfl (any_of HT_.out (by kernel_rfl)) (fun _ _ _ h => h) (Or.inr ⟨by rfl, rfl⟩) ?_ ?_
                 rotate_left
                 ·simp only [Act.put, List.setIfInBounds_toArray, List.set_cons_zero, List.set_cons_succ, i64_w, i32_w]
                  rfl
                 refine pure_ (i := 19) (N := some 63) (v := ?_) (a' := ?_) #[true, true, true, true, true, true, true, true, true, true, true, true, true, true, true, true, true, true, true, true, false] rfl rfl (any_of HT_.out (by kernel_rfl)) (fun _ _ _ h => h) (Or.inl ⟨by rfl, ?_⟩) ?_ ?_
                 rotate_left
                 ·intro w'
                  go_simp
                  with_reducible rfl
                 rotate_left
                 ·simp only [Act.put, List.setIfInBounds_toArray, List.set_cons_zero, List.set_cons_succ, i64_w, i32_w]
                  rfl
                 refine pure_ (i := 20) (N := some 64) (v := ?_) (a' := ?_) #[true, true, true, true, true, true, true, true, true, true, true, true, true, true, true, true, true, true, true, true, true] rfl rfl (any_of HT_.out (by kernel_rfl)) (fun _ _ _ h => h) (Or.inl ⟨by rfl, ?_⟩) ?_ ?_
                 rotate_left
                 ·intro w'
                  go_simp
                  with_reducible rfl
                 rotate_left
                 ·simp only [Act.put, List.setIfInBounds_toArray, List.set_cons_zero, List.set_cons_succ, i64_w, i32_w]
                  rfl
                 refine done_ (done_of HT_.out (by kernel_rfl)) ?_
                 try go_wp2
                 go_meet
                 case rel => exact ⟨_, (true), (by first | rfl | (simp; done) | (simp [*]; done)), H', ⟨by have := HJ2.out; have := HK2.out; have := HJ15.out; first | omega | exact Nat.le_refl _⟩, ⟨by (with_reducible repeat (first | refine blk_drewN ?_ _ | refine blk_drew ?_ | refine blk_alloc ?_ _)); exact BK101.out⟩, ⟨by (with_reducible repeat (first | refine blk_drewN ?_ _ | refine blk_drew ?_ | refine blk_alloc ?_ _)); exact BK104.out⟩, ⟨by repeat (first | (with_reducible first | exact HB.out | apply below_alloc | apply pw_below_drewN | apply below_drew1 | refine below_set ?_ GE101.out | refine below_set ?_ GE104.out) | exact HB.out)⟩⟩
                ·rw [if_neg c31] at H
                 have c31b0 : decide (((rd_T75 l1_2 x31_2).f0) ≤ ((rd_T75 l1_2 (ji28)).f0)) = false := decide_eq_false c31
                 clear c31
                 replace H := Option.bind_eq_some_iff.mp H
                 obtain ⟨t106, A330, H⟩ := H
                 replace H : (proof_whole.j3 kj15 l0 x5_2 l1_2 (l1_2.length : Int) x31_2 (!t106) a1_0 a1_1 l1_2 ((rd_T75 l1_2 x31_2).f0) ((rd_T75 l1_2 x31_2).f1)) = some r := H
                 have A33 := Aside0.mk A330
                 clear A330
                 have H' := Aside0.mk H
                 clear H
                 try go_wp2
                 have n0_ := Aside0.mk (blk_drew BK101.out)
                 have n1_ := Aside0.mk (blk_drew BK104.out)
                 have n2_ := Aside0.mk (below_drew1 HB.out)
                 clear BK101
                 clear BK104
                 clear HB
                 have BK101 := n0_
                 have BK104 := n1_
                 have HB := n2_
                 clear n0_ n1_ n2_
                 have p105 : 0 ≤ ((ji28) : Int) := of_decide_eq_true (by first | (with_reducible assumption) | assumption)
                 have q105 : (ji28) < (l1_2.length : Int) := of_decide_eq_true (by first | (with_reducible assumption) | assumption)
                 obtain ⟨ad105, e105, hx105_0, hx105_1⟩ := at_T75 HR1_2.out (ji28) p105 q105
                 have hw105_1 := hx105_1
                 have hw105_0 := hx105_0
                 obtain rfl : ad103 = ad105 := (by injection e105)
                 replace hx105_0 := (HB.out.cell (World.block_lt_of_cell? w _ hx105_0)).trans hx105_0
                 replace hx105_1 := (HB.out.cell (World.block_lt_of_cell? w _ hx105_1)).trans hx105_1
                 replace p105 := eq_true p105
                 replace q105 := eq_true q105
                 refine start_ (n := 21) (S := fun w' => w'.cell? ⟨gb104, 0, none⟩ = some (.int .u64 ((rd_T75 l1_2 x31_2).f0)) ∧ w'.cell? ⟨gb104, 1, none⟩ = some (.int .i64 ((rd_T75 l1_2 x31_2).f1)) ∧ w'.cell? ⟨gb101, 0, none⟩ = some (.int .u64 a1_0) ∧ w'.cell? ⟨gb101, 1, none⟩ = some (.int .u64 a1_1) ∧ w'.cell? ⟨gb101, 2, none⟩ = some (.slice (some ad103) l1_2.length c1_2) ∧ w'.cell? (ad103.add (((ji28)).toNat * 2)) = some (.int .u64 ((rd_T75 l1_2 (ji28)).f0)) ∧ w'.cell? ⟨(ad103.add (((ji28)).toNat * 2)).block, (ad103.add (((ji28)).toNat * 2)).off + 1, none⟩ = some (.int .i64 ((rd_T75 l1_2 (ji28)).f1))) (ds := []) #[false, false, false, false, false, false, false, false, false, false, false, false, false, false, false, false, false, false, false, false, false] (by kernel_rfl) rfl rfl ⟨(blk_cell BK104.out 0).trans rfl, (blk_cell BK104.out 1).trans rfl, (blk_cell BK101.out 0).trans rfl, (blk_cell BK101.out 1).trans rfl, (blk_cell BK101.out 2).trans rfl, ((HB.out.cell (World.block_lt_of_cell? w _ hw105_0)).trans hw105_0), ((HB.out.cell (World.block_lt_of_cell? w _ hw105_1)).trans hw105_1)⟩ (fun hHeld => ?_); refine with_tabW proof_whole.tab9 proof_whole.bits9 (fun HT_ HW_ => ?_)
                 generalize wc.drew = w34 at BK101 BK104 HB hx105_0 hx105_1 hHeld ⊢
                 refine pure_ (i := 0) (N := some 44) (v := ?_) (a' := ?_) #[true, false, false, false, false, false, false, false, false, false, false, false, false, false, false, false, false, false, false, false, false] rfl rfl (any_of HT_.out (by kernel_rfl)) (fun _ _ _ h => h) (Or.inl ⟨by rfl, ?_⟩) ?_ ?_
                 rotate_left
                 ·intro w'
                  go_simp
                  with_reducible rfl
                 rotate_left
                 ·simp only [Act.put, List.setIfInBounds_toArray, List.set_cons_zero, List.set_cons_succ, i64_w, i32_w]
                  rfl
                 refine pure_ (i := 1) (N := some 45) (v := ?_) (a' := ?_) #[true, true, false, false, false, false, false, false, false, false, false, false, false, false, false, false, false, false, false, false, false] rfl rfl (any_of HT_.out (by kernel_rfl)) (fun _ _ _ h => h) (Or.inl ⟨by rfl, ?_⟩) ?_ ?_
                 rotate_left
                 ·intro w'
                  go_simp
                  with_reducible rfl
                 rotate_left
                 ·simp only [Act.put, List.setIfInBounds_toArray, List.set_cons_zero, List.set_cons_succ, i64_w, i32_w]
                  rfl
                 refine pure_ (i := 2) (N := some 46) (v := ?_) (a' := ?_) #[true, true, true, false, false, false, false, false, false, false, false, false, false, false, false, false, false, false, false, false, false] rfl rfl (any_of HT_.out (by kernel_rfl)) (fun _ _ _ h => h) (Or.inl ⟨by rfl, ?_⟩) ?_ ?_
                 rotate_left
                 ·intro w'
                  go_simp
                  with_reducible rfl
                 rotate_left
                 ·simp only [Act.put, List.setIfInBounds_toArray, List.set_cons_zero, List.set_cons_succ, i64_w, i32_w]
                  rfl
                 refine pure_ (i := 3) (N := some 47) (v := ?_) (a' := ?_) #[true, true, true, true, false, false, false, false, false, false, false, false, false, false, false, false, false, false, false, false, false] rfl rfl (any_of HT_.out (by kernel_rfl)) (fun _ _ _ h => h) (Or.inl ⟨by rfl, ?_⟩) ?_ ?_
                 rotate_left
                 ·intro w'
                  go_simp
                  with_reducible rfl
                 rotate_left
                 ·simp only [Act.put, List.setIfInBounds_toArray, List.set_cons_zero, List.set_cons_succ, i64_w, i32_w]
                  rfl
                 refine pure_ (i := 5) (N := some 49) (v := ?_) (a' := ?_) #[true, true, true, true, false, true, false, false, false, false, false, false, false, false, false, false, false, false, false, false, false] rfl rfl (any_of HT_.out (by kernel_rfl)) (fun _ _ _ h => h) (Or.inl ⟨by rfl, ?_⟩) ?_ ?_
                 rotate_left
                 ·intro w'
                  go_simp
                  with_reducible rfl
                 rotate_left
                 ·simp only [Act.put, List.setIfInBounds_toArray, List.set_cons_zero, List.set_cons_succ, i64_w, i32_w]
                  rfl
                 refine pure_ (i := 7) (N := some 51) (v := ?_) (a' := ?_) #[true, true, true, true, false, true, false, true, false, false, false, false, false, false, false, false, false, false, false, false, false] rfl rfl (any_of HT_.out (by kernel_rfl)) (fun _ _ _ h => h) (Or.inl ⟨by rfl, ?_⟩) ?_ ?_
                 rotate_left
                 ·intro w'
                  go_simp
                  with_reducible rfl
                 rotate_left
                 ·simp only [Act.put, List.setIfInBounds_toArray, List.set_cons_zero, List.set_cons_succ, i64_w, i32_w]
                  rfl
                 refine pure_ (i := 8) (N := some 52) (v := ?_) (a' := ?_) #[true, true, true, true, false, true, false, true, true, false, false, false, false, false, false, false, false, false, false, false, false] rfl rfl (any_of HT_.out (by kernel_rfl)) (fun _ _ _ h => h) (Or.inl ⟨by rfl, ?_⟩) ?_ ?_
                 rotate_left
                 ·intro w'
                  go_simp
                  with_reducible rfl
                 rotate_left
                 ·simp only [Act.put, List.setIfInBounds_toArray, List.set_cons_zero, List.set_cons_succ, i64_w, i32_w]
                  rfl
                 refine take_ (i := 4) (N := some 48) (v := ?_) (a' := ?_) #[true, true, true, true, true, true, false, true, true, false, false, false, false, false, false, false, false, false, false, false, false] rfl rfl (take_ofW HT_.out HW_.out (by kernel_rfl)) (fun _ _ _ h => h) (Or.inl ⟨by rfl, ?_⟩) hHeld ?_ ?_
                 rotate_left
                 ·rintro w' ⟨s0, s1, s2, s3, s4, s5, s6⟩
                  go_simp
                  with_reducible rfl
                 rotate_left
                 ·simp only [Act.put, List.setIfInBounds_toArray, List.set_cons_zero, List.set_cons_succ, i64_w, i32_w]
                  rfl
                 refine take_ (i := 6) (N := some 50) (v := ?_) (a' := ?_) #[true, true, true, true, true, true, true, true, true, false, false, false, false, false, false, false, false, false, false, false, false] rfl rfl (take_ofW HT_.out HW_.out (by kernel_rfl)) (fun _ _ _ h => h) (Or.inl ⟨by rfl, ?_⟩) hHeld ?_ ?_
                 rotate_left
                 ·rintro w' ⟨s0, s1, s2, s3, s4, s5, s6⟩
                  go_simp
                  with_reducible rfl
                 rotate_left
                 ·simp only [Act.put, List.setIfInBounds_toArray, List.set_cons_zero, List.set_cons_succ, i64_w, i32_w]
                  rfl
                 refine pure_ (i := 9) (N := some 53) (v := ?_) (a' := ?_) #[true, true, true, true, true, true, true, true, true, true, false, false, false, false, false, false, false, false, false, false, false] rfl rfl (any_of HT_.out (by kernel_rfl)) (fun _ _ _ h => h) (Or.inl ⟨by rfl, ?_⟩) ?_ ?_
                 rotate_left
                 ·intro w'
                  go_simp
                  with_reducible rfl
                 rotate_left
                 ·simp only [Act.put, List.setIfInBounds_toArray, List.set_cons_zero, List.set_cons_succ, i64_w, i32_w]
                  rfl
                 refine pure_ (i := 10) (N := some 54) (v := ?_) (a' := ?_) #[true, true, true, true, true, true, true, true, true, true, true, false, false, false, false, false, false, false, false, false, false] rfl rfl (any_of HT_.out (by kernel_rfl)) (fun _ _ _ h => h) (Or.inl ⟨by rfl, ?_⟩) ?_ ?_
                 rotate_left
                 ·intro w'
                  go_simp
                  with_reducible rfl
                 rotate_left
                 ·simp only [Act.put, List.setIfInBounds_toArray, List.set_cons_zero, List.set_cons_succ, i64_w, i32_w]
                  rfl
                 refine take_ (i := 11) (N := some 55) (v := ?_) (a' := ?_) #[true, true, true, true, true, true, true, true, true, true, true, true, false, false, false, false, false, false, false, false, false] rfl rfl (take_ofW HT_.out HW_.out (by kernel_rfl)) (fun _ _ _ h => h) (Or.inl ⟨by rfl, ?_⟩) hHeld ?_ ?_
                 rotate_left
                 ·rintro w' ⟨s0, s1, s2, s3, s4, s5, s6⟩
                  go_simp
                  with_reducible rfl
                 rotate_left
                 ·simp only [Act.put, List.setIfInBounds_toArray, List.set_cons_zero, List.set_cons_succ, i64_w, i32_w]
                  rfl
                 refine pure_ (i := 12) (N := some 56) (v := ?_) (a' := ?_) #[true, true, true, true, true, true, true, true, true, true, true, true, true, false, false, false, false, false, false, false, false] rfl rfl (any_of HT_.out (by kernel_rfl)) (fun _ _ _ h => h) (Or.inl ⟨by rfl, ?_⟩) ?_ ?_
                 rotate_left
                 ·intro w'
                  go_simp
                  with_reducible rfl
                 rotate_left
                 ·simp only [Act.put, List.setIfInBounds_toArray, List.set_cons_zero, List.set_cons_succ, i64_w, i32_w]
                  rfl
                 refine pure_ (i := 13) (N := some 57) (v := ?_) (a' := ?_) #[true, true, true, true, true, true, true, true, true, true, true, true, true, true, false, false, false, false, false, false, false] rfl rfl (any_of HT_.out (by kernel_rfl)) (fun _ _ _ h => h) (Or.inl ⟨by rfl, ?_⟩) ?_ ?_
                 rotate_left
                 ·intro w'
                  go_simp
                  with_reducible rfl
                 rotate_left
                 ·simp only [Act.put, List.setIfInBounds_toArray, List.set_cons_zero, List.set_cons_succ, i64_w, i32_w]
                  rfl
                 refine pure_ (i := 14) (N := some 58) (v := ?_) (a' := ?_) #[true, true, true, true, true, true, true, true, true, true, true, true, true, true, true, false, false, false, false, false, false] rfl rfl (any_of HT_.out (by kernel_rfl)) (fun _ _ _ h => h) (Or.inl ⟨by rfl, ?_⟩) ?_ ?_
                 rotate_left
                 ·intro w'
                  go_simp
                  with_reducible rfl
                 rotate_left
                 ·simp only [Act.put, List.setIfInBounds_toArray, List.set_cons_zero, List.set_cons_succ, i64_w, i32_w]
                  rfl
                 refine pure_ (i := 15) (N := some 59) (v := ?_) (a' := ?_) #[true, true, true, true, true, true, true, true, true, true, true, true, true, true, true, true, false, false, false, false, false] rfl rfl (any_of HT_.out (by kernel_rfl)) (fun _ _ _ h => h) (Or.inl ⟨by rfl, ?_⟩) ?_ ?_
                 rotate_left
                 ·intro w'
                  go_simp
                  with_reducible rfl
                 rotate_left
                 ·simp only [Act.put, List.setIfInBounds_toArray, List.set_cons_zero, List.set_cons_succ, i64_w, i32_w]
                  rfl
                 refine take_ (i := 16) (N := some 60) (v := ?_) (a' := ?_) #[true, true, true, true, true, true, true, true, true, true, true, true, true, true, true, true, true, false, false, false, false] rfl rfl (take_ofW HT_.out HW_.out (by kernel_rfl)) (fun _ _ _ h => h) (Or.inl ⟨by rfl, ?_⟩) hHeld ?_ ?_
                 rotate_left
                 ·rintro w' ⟨s0, s1, s2, s3, s4, s5, s6⟩
                  go_simp
                  with_reducible rfl
                 rotate_left
                 ·simp only [Act.put, List.setIfInBounds_toArray, List.set_cons_zero, List.set_cons_succ, i64_w, i32_w]
                  rfl
                 refine one_ (i := 17) (N := some 61) #[true, true, true, true, true, true, true, true, true, true, true, true, true, true, true, true, true, true, false, false, false] rfl rfl (one_of HT_.out (by kernel_rfl)) (by decide) (fun K hK => ?_)
                 refine goes_ Try.func78 (by kernel_rfl) rfl #[.slice A0 l0.length c0, .int .u64 ((rd_T75 l1_2 x31_2).f0)] (by rfl) rfl rfl (by (try simp only [List.map_toArray, List.map_cons, List.map_nil]); first | done | rfl | (simp only [List.length_drop, List.length_take]; rfl)) ?_
                 with_reducible refine (proof_claimed.calls _ _ l0 ((rd_T75 l1_2 x31_2).f0) t106 _ ?side1 ?side2 A33.out).mono ?_
                 (case side1 => repeat (first | exact (Kd.C_below HR0.out HB.out) | (with_reducible refine Kd.C_alloc ?_ _) | (with_reducible refine Kd.C_drewN ?_ _) | (with_reducible refine Kd.C_drew ?_)))
                 (case side2 => exact HC0.out)
                 rintro e w35 ⟨rfl, hb⟩
                 refine ⟨_, rfl, ?_⟩
                 have n0_ := Aside0.mk (blk_below (g := gb101) (o := .cells #[.int .u64 a1_0, .int .u64 a1_1, .slice (some ad103) l1_2.length c1_2] 58 (0, 0)) (by (with_reducible repeat (first | refine blk_drewN ?_ _ | refine blk_drew ?_ | refine blk_alloc ?_ _)); exact BK101.out) hb)
                 have n1_ := Aside0.mk (blk_below (g := gb104) (o := .cells #[.int .u64 ((rd_T75 l1_2 x31_2).f0), .int .i64 ((rd_T75 l1_2 x31_2).f1)] 75 (0, 0)) (by (with_reducible repeat (first | refine blk_drewN ?_ _ | refine blk_drew ?_ | refine blk_alloc ?_ _)); exact BK104.out) hb)
                 have n2_ := Aside0.mk (below_step (by repeat (first | (with_reducible first | exact HB.out | apply below_alloc | apply pw_below_drewN | apply below_drew1 | refine below_set ?_ GE101.out | refine below_set ?_ GE104.out) | exact HB.out)) hb)
                 clear BK101
                 clear BK104
                 clear HB
                 have BK101 := n0_
                 have BK104 := n1_
                 have HB := n2_
                 clear n0_ n1_ n2_
                 (try clear hb)
                 (try clear hb2)
                 (try clear hk)
                 (try clear hi)
                 refine hK.out _ _ ⟨(blk_cell BK104.out 0).trans rfl, (blk_cell BK104.out 1).trans rfl, (blk_cell BK101.out 0).trans rfl, (blk_cell BK101.out 1).trans rfl, (blk_cell BK101.out 2).trans rfl, ((HB.out.cell (World.block_lt_of_cell? w _ hw105_0)).trans hw105_0), ((HB.out.cell (World.block_lt_of_cell? w _ hw105_1)).trans hw105_1)⟩ (fun hHeld => ?_)
                 clear hK K
                 refine norm_ (a' := ?_) ?_ ?_
                 rotate_left
                 ·show Act.put _ (some 61) _ = _
                  simp only [Act.put, List.setIfInBounds_toArray, List.set_cons_zero, List.set_cons_succ, i64_w, i32_w]
                  rfl
                 refine pure_ (i := 18) (N := some 62) (v := ?_) (a' := ?_) #[true, true, true, true, true, true, true, true, true, true, true, true, true, true, true, true, true, true, true, false, false] rfl rfl (any_of HT_.out (by kernel_rfl)) (fun _ _ _ h => h) (Or.inl ⟨by rfl, ?_⟩) ?_ ?_
                 rotate_left
                 ·intro w'
                  go_simp
                  with_reducible rfl
                 rotate_left
                 ·simp only [Act.put, List.setIfInBounds_toArray, List.set_cons_zero, List.set_cons_succ, i64_w, i32_w]
                  rfl
                 refine pure_ (i := 19) (N := some 63) (v := ?_) (a' := ?_) #[true, true, true, true, true, true, true, true, true, true, true, true, true, true, true, true, true, true, true, true, false] rfl rfl (any_of HT_.out (by kernel_rfl)) (fun _ _ _ h => h) (Or.inl ⟨by rfl, ?_⟩) ?_ ?_
                 rotate_left
                 ·intro w'
                  go_simp
                  with_reducible rfl
                 rotate_left
                 ·simp only [Act.put, List.setIfInBounds_toArray, List.set_cons_zero, List.set_cons_succ, i64_w, i32_w]
                  rfl
                 refine pure_ (i := 20) (N := some 64) (v := ?_) (a' := ?_) #[true, true, true, true, true, true, true, true, true, true, true, true, true, true, true, true, true, true, true, true, true] rfl rfl (any_of HT_.out (by kernel_rfl)) (fun _ _ _ h => h) (Or.inl ⟨by rfl, ?_⟩) ?_ ?_
                 rotate_left
                 ·intro w'
                  go_simp
                  with_reducible rfl
                 rotate_left
                 ·simp only [Act.put, List.setIfInBounds_toArray, List.set_cons_zero, List.set_cons_succ, i64_w, i32_w]
                  rfl
                 refine done_ (done_of HT_.out (by kernel_rfl)) ?_
                 try go_wp2
                 go_meet
                 case rel => exact ⟨_, (!t106), (by first | rfl | (simp; done) | (simp [*]; done)), H', ⟨by have := HJ2.out; have := HK2.out; have := HJ15.out; first | omega | exact Nat.le_refl _⟩, ⟨by (with_reducible repeat (first | refine blk_drewN ?_ _ | refine blk_drew ?_ | refine blk_alloc ?_ _)); exact BK101.out⟩, ⟨by (with_reducible repeat (first | refine blk_drewN ?_ _ | refine blk_drew ?_ | refine blk_alloc ?_ _)); exact BK104.out⟩, ⟨by repeat (first | (with_reducible first | exact HB.out | apply below_alloc | apply pw_below_drewN | apply below_drew1 | refine below_set ?_ GE101.out | refine below_set ?_ GE104.out) | exact HB.out)⟩⟩
               ·rw [if_neg c30] at H
                exact absurd H (by simp)
              ·rw [if_neg c29] at H
               exact absurd H (by simp)
             ·rw [if_neg c27] at H
              have c27b0 : decide (0 < x31_2) = false := decide_eq_false c27
              clear c27
              (first | rw [c27b0] | (simp only [i64_w, i32_w]; rw [c27b0]) | skip)
              have H' := Aside0.mk H
              clear H
              try go_wp2
              have n0_ := Aside0.mk (blk_drew BK101.out)
              have n1_ := Aside0.mk (blk_drew BK104.out)
              have n2_ := Aside0.mk (below_drew1 HB.out)
              clear BK101
              clear BK104
              clear HB
              have BK101 := n0_
              have BK104 := n1_
              have HB := n2_
              clear n0_ n1_ n2_
              refine start_ (n := 21) (S := fun w' => True) (ds := []) #[false, false, false, false, false, false, false, false, false, false, false, false, false, false, false, false, false, false, false, false, false] (by kernel_rfl) rfl rfl trivial (fun hHeld => ?_); refine with_tabW proof_whole.tab9 proof_whole.bits9 (fun HT_ HW_ => ?_)
              generalize wc.drew = w36 at BK101 BK104 HB hHeld ⊢
              refine pure_ (i := 0) (N := some 44) (v := ?_) (a' := ?_) #[true, false, false, false, false, false, false, false, false, false, false, false, false, false, false, false, false, false, false, false, false] rfl rfl (any_of HT_.out (by kernel_rfl)) (fun _ _ _ h => h) (Or.inl ⟨by rfl, ?_⟩) ?_ ?_
              rotate_left
              ·intro w'
               go_simp
               with_reducible rfl
              rotate_left
              ·simp only [Act.put, List.setIfInBounds_toArray, List.set_cons_zero, List.set_cons_succ, i64_w, i32_w]
               rfl
              refine pure_ (i := 1) (N := some 45) (v := ?_) (a' := ?_) #[true, true, false, false, false, false, false, false, false, false, false, false, false, false, false, false, false, false, false, false, false] rfl rfl (any_of HT_.out (by kernel_rfl)) (fun _ _ _ h => h) (Or.inl ⟨by rfl, ?_⟩) ?_ ?_
              rotate_left
              ·intro w'
               go_simp
               with_reducible rfl
              rotate_left
              ·simp only [Act.put, List.setIfInBounds_toArray, List.set_cons_zero, List.set_cons_succ, i64_w, i32_w]
               rfl
              refine pure_ (i := 2) (N := some 46) (v := ?_) (a' := ?_) #[true, true, true, false, false, false, false, false, false, false, false, false, false, false, false, false, false, false, false, false, false] rfl rfl (any_of HT_.out (by kernel_rfl)) (fun _ _ _ h => h) (Or.inl ⟨by rfl, ?_⟩) ?_ ?_
              rotate_left
              ·intro w'
               go_simp
               with_reducible rfl
              rotate_left
              ·simp only [Act.put, List.setIfInBounds_toArray, List.set_cons_zero, List.set_cons_succ, i64_w, i32_w]
               rfl
              refine pure_ (i := 3) (N := some 47) (v := undef) (a' := ?_) #[true, true, true, true, false, false, false, false, false, false, false, false, false, false, false, false, false, false, false, false, false] rfl rfl (any_of HT_.out (by kernel_rfl)) (fun _ _ _ h => h) (Or.inr ⟨by rfl, rfl⟩) ?_ ?_
              rotate_left
              ·simp only [Act.put, List.setIfInBounds_toArray, List.set_cons_zero, List.set_cons_succ, i64_w, i32_w]
               rfl
              refine pure_ (i := 4) (N := some 48) (v := undef) (a' := ?_) #[true, true, true, true, true, false, false, false, false, false, false, false, false, false, false, false, false, false, false, false, false] rfl rfl (any_of HT_.out (by kernel_rfl)) (fun _ _ _ h => h) (Or.inr ⟨by rfl, rfl⟩) ?_ ?_
              rotate_left
              ·simp only [Act.put, List.setIfInBounds_toArray, List.set_cons_zero, List.set_cons_succ, i64_w, i32_w]
               rfl
              refine pure_ (i := 5) (N := some 49) (v := undef) (a' := ?_) #[true, true, true, true, true, true, false, false, false, false, false, false, false, false, false, false, false, false, false, false, false] rfl rfl (any_of HT_.out (by kernel_rfl)) (fun _ _ _ h => h) (Or.inr ⟨by rfl, rfl⟩) ?_ ?_
              rotate_left
              ·simp only [Act.put, List.setIfInBounds_toArray, List.set_cons_zero, List.set_cons_succ, i64_w, i32_w]
               rfl
              refine pure_ (i := 6) (N := some 50) (v := undef) (a' := ?_) #[true, true, true, true, true, true, true, false, false, false, false, false, false, false, false, false, false, false, false, false, false] rfl rfl (any_of HT_.out (by kernel_rfl)) (fun _ _ _ h => h) (Or.inr ⟨by rfl, rfl⟩) ?_ ?_
              rotate_left
              ·simp only [Act.put, List.setIfInBounds_toArray, List.set_cons_zero, List.set_cons_succ, i64_w, i32_w]
               rfl
              refine pure_ (i := 7) (N := some 51) (v := undef) (a' := ?_) #[true, true, true, true, true, true, true, true, false, false, false, false, false, false, false, false, false, false, false, false, false] rfl rfl (any_of HT_.out (by kernel_rfl)) (fun _ _ _ h => h) (Or.inr ⟨by rfl, rfl⟩) ?_ ?_
              rotate_left
              ·simp only [Act.put, List.setIfInBounds_toArray, List.set_cons_zero, List.set_cons_succ, i64_w, i32_w]
               rfl
              refine pure_ (i := 8) (N := some 52) (v := undef) (a' := ?_) #[true, true, true, true, true, true, true, true, true, false, false, false, false, false, false, false, false, false, false, false, false] rfl rfl (any_of HT_.out (by kernel_rfl)) (fun _ _ _ h => h) (Or.inr ⟨by rfl, rfl⟩) ?_ ?_
              rotate_left
              ·simp only [Act.put, List.setIfInBounds_toArray, List.set_cons_zero, List.set_cons_succ, i64_w, i32_w]
               rfl
              refine pure_ (i := 9) (N := some 53) (v := undef) (a' := ?_) #[true, true, true, true, true, true, true, true, true, true, false, false, false, false, false, false, false, false, false, false, false] rfl rfl (any_of HT_.out (by kernel_rfl)) (fun _ _ _ h => h) (Or.inr ⟨by rfl, rfl⟩) ?_ ?_
              rotate_left
              ·simp only [Act.put, List.setIfInBounds_toArray, List.set_cons_zero, List.set_cons_succ, i64_w, i32_w]
               rfl
              refine pure_ (i := 10) (N := some 54) (v := undef) (a' := ?_) #[true, true, true, true, true, true, true, true, true, true, true, false, false, false, false, false, false, false, false, false, false] rfl rfl (any_of HT_.out (by kernel_rfl)) (fun _ _ _ h => h) (Or.inr ⟨by rfl, rfl⟩) ?_ ?_
              rotate_left
              ·simp only [Act.put, List.setIfInBounds_toArray, List.set_cons_zero, List.set_cons_succ, i64_w, i32_w]
               rfl
              refine pure_ (i := 11) (N := some 55) (v := undef) (a' := ?_) #[true, true, true, true, true, true, true, true, true, true, true, true, false, false, false, false, false, false, false, false, false] rfl rfl (any_of HT_.out (by kernel_rfl)) (fun _ _ _ h => h) (Or.inr ⟨by rfl, rfl⟩) ?_ ?_
              rotate_left
              ·simp only [Act.put, List.setIfInBounds_toArray, List.set_cons_zero, List.set_cons_succ, i64_w, i32_w]
               rfl
              refine pure_ (i := 12) (N := some 56) (v := undef) (a' := ?_) #[true, true, true, true, true, true, true, true, true, true, true, true, true, false, false, false, false, false, false, false, false] rfl rfl (any_of HT_.out (by kernel_rfl)) (fun _ _ _ h => h) (Or.inr ⟨by rfl, rfl⟩) ?_ ?_
              rotate_left
              ·simp only [Act.put, List.setIfInBounds_toArray, List.set_cons_zero, List.set_cons_succ, i64_w, i32_w]
               rfl
              refine pure_ (i := 13) (N := some 57) (v := undef) (a' := ?_) #[true, true, true, true, true, true, true, true, true, true, true, true, true, true, false, false, false, false, false, false, false] rfl rfl (any_of HT_.out (by kernel_rfl)) (fun _ _ _ h => h) (Or.inr ⟨by rfl, rfl⟩) ?_ ?_
              rotate_left
              ·simp only [Act.put, List.setIfInBounds_toArray, List.set_cons_zero, List.set_cons_succ, i64_w, i32_w]
               rfl
              refine pure_ (i := 14) (N := some 58) (v := undef) (a' := ?_) #[true, true, true, true, true, true, true, true, true, true, true, true, true, true, true, false, false, false, false, false, false] rfl rfl (any_of HT_.out (by kernel_rfl)) (fun _ _ _ h => h) (Or.inr ⟨by rfl, rfl⟩) ?_ ?_
              rotate_left
              ·simp only [Act.put, List.setIfInBounds_toArray, List.set_cons_zero, List.set_cons_succ, i64_w, i32_w]
               rfl
              refine pure_ (i := 15) (N := some 59) (v := undef) (a' := ?_) #[true, true, true, true, true, true, true, true, true, true, true, true, true, true, true, true, false, false, false, false, false] rfl rfl (any_of HT_.out (by kernel_rfl)) (fun _ _ _ h => h) (Or.inr ⟨by rfl, rfl⟩) ?_ ?_
              rotate_left
              ·simp only [Act.put, List.setIfInBounds_toArray, List.set_cons_zero, List.set_cons_succ, i64_w, i32_w]
               rfl
              refine pure_ (i := 16) (N := some 60) (v := undef) (a' := ?_) #[true, true, true, true, true, true, true, true, true, true, true, true, true, true, true, true, true, false, false, false, false] rfl rfl (any_of HT_.out (by kernel_rfl)) (fun _ _ _ h => h) (Or.inr ⟨by rfl, rfl⟩) ?_ ?_
              rotate_left
              ·simp only [Act.put, List.setIfInBounds_toArray, List.set_cons_zero, List.set_cons_succ, i64_w, i32_w]
               rfl
              refine pure_ (i := 17) (N := some 61) (v := undef) (a' := ?_) #[true, true, true, true, true, true, true, true, true, true, true, true, true, true, true, true, true, true, false, false, false] rfl rfl (any_of HT_.out (by kernel_rfl)) (fun _ _ _ h => h) (Or.inr ⟨by rfl, rfl⟩) ?_ ?_
              rotate_left
              ·simp only [Act.put, List.setIfInBounds_toArray, List.set_cons_zero, List.set_cons_succ, i64_w, i32_w]
               rfl
              refine pure_ (i := 18) (N := some 62) (v := undef) (a' := ?_) #[true, true, true, true, true, true, true, true, true, true, true, true, true, true, true, true, true, true, true, false, false] rfl rfl (any_of HT_.out (by kernel_rfl)) (fun _ _ _ h => h) (Or.inr ⟨by rfl, rfl⟩) ?_ ?_
              rotate_left
              ·simp only [Act.put, List.setIfInBounds_toArray, List.set_cons_zero, List.set_cons_succ, i64_w, i32_w]
               rfl
              refine pure_ (i := 19) (N := some 63) (v := undef) (a' := ?_) #[true, true, true, true, true, true, true, true, true, true, true, true, true, true, true, true, true, true, true, true, false] rfl rfl (any_of HT_.out (by kernel_rfl)) (fun _ _ _ h => h) (Or.inr ⟨by rfl, rfl⟩) ?_ ?_
              rotate_left
              ·simp only [Act.put, List.setIfInBounds_toArray, List.set_cons_zero, List.set_cons_succ, i64_w, i32_w]
               rfl
              refine pure_ (i := 20) (N := some 64) (v := ?_) (a' := ?_) #[true, true, true, true, true, true, true, true, true, true, true, true, true, true, true, true, true, true, true, true, true] rfl rfl (any_of HT_.out (by kernel_rfl)) (fun _ _ _ h => h) (Or.inl ⟨by rfl, ?_⟩) ?_ ?_
              rotate_left
              ·intro w'
               go_simp
               with_reducible rfl
              rotate_left
              ·simp only [Act.put, List.setIfInBounds_toArray, List.set_cons_zero, List.set_cons_succ, i64_w, i32_w]
               rfl
              refine done_ (done_of HT_.out (by kernel_rfl)) ?_
              try go_wp2
              go_meet
              case rel => exact ⟨_, (false), (by first | rfl | (simp; done) | (simp [*]; done)), H', ⟨by have := HJ2.out; have := HK2.out; have := HJ15.out; first | omega | exact Nat.le_refl _⟩, ⟨by (with_reducible repeat (first | refine blk_drewN ?_ _ | refine blk_drew ?_ | refine blk_alloc ?_ _)); exact BK101.out⟩, ⟨by (with_reducible repeat (first | refine blk_drewN ?_ _ | refine blk_drew ?_ | refine blk_alloc ?_ _)); exact BK104.out⟩, ⟨by repeat (first | (with_reducible first | exact HB.out | apply below_alloc | apply pw_below_drewN | apply below_drew1 | refine below_set ?_ GE101.out | refine below_set ?_ GE104.out) | exact HB.out)⟩⟩
            case rest =>
             clear HC26
             try clear c1
             try clear p1
             try clear q1
             try clear hx1
             try clear c2
             try clear p2
             try clear c3
             try clear p6
             try clear c7
             try clear p10
             try clear q10
             try clear hx10
             try clear c25
             try clear c27
             try clear c27b0
             try clear c29
             try clear c29b0
             try clear c30
             try clear c30b0
             try clear c31
             try clear c31b0
             try clear hfz6_0
             try clear hfz6_1
             try clear hfz6_2
             try clear hfz8_0
             try clear hfz8_1
             try clear hfz8_2
             try clear hx102_0
             try clear hx102_1
             try clear hx103_0
             try clear hx103_1
             try clear hx105_0
             try clear hx105_1
             try clear p1
             try clear p10
             try clear p102
             try clear p103
             try clear p105
             try clear p2
             try clear q1
             try clear q10
             try clear q102
             try clear q103
             try clear q105
             obtain ⟨kq, x64_25, rfl, HA, HJ25, BK101, BK104, HB⟩ := hcut
             cases kq with
             | zero => exact absurd HA.out (by simp [proof_whole.j3])
             | succ kj25 =>
              have H := HA.out
              clear HA
              simp only [proof_whole.j3] at H
              by_cases c37 : x64_25 = true
              ·subst c37
               have H1 : (some false) = some r := by rw [if_pos rfl] at H <;> exact H
               clear H
               have H := H1
               clear H1
               obtain rfl := Option.some.inj H
               go_wp2
               go_ret
               exact ⟨by first | rfl | (simp [errW_none, errW_some] <;> rfl) | (simp [*, errW_none, errW_some] <;> rfl), by repeat (first | (with_reducible first | exact HB.out | apply below_alloc | apply pw_below_drewN | apply below_drew1 | refine below_set ?_ GE101.out | refine below_set ?_ GE104.out) | exact HB.out)⟩
              ·replace c37 := Bool.eq_false_iff.mpr c37
               subst c37
               have H1 : (proof_whole.l1 kj25 l0 x5_2 l1_2 (l1_2.length : Int) x31_2 ((rd_T75 l1_2 x31_2).f1) 0 a1_0 a1_1 l1_2 ((rd_T75 l1_2 x31_2).f0) ((rd_T75 l1_2 x31_2).f1)) = some r := by rw [if_neg (show ¬ (false = true) by decide)] at H <;> exact H
               clear H
               have H := H1
               clear H1
               have H' := Aside0.mk H
               clear H
               have hnb38 := NB104_101.out
               have hnc38 := NB101_104.out
               have hcz39_0 : wc.cell? ⟨gb104, 0, none⟩ = some (.int .u64 ((rd_T75 l1_2 x31_2).f0)) := (blk_cell BK104.out 0).trans rfl
               have hcz39_1 : wc.cell? ⟨gb104, 1, none⟩ = some (.int .i64 ((rd_T75 l1_2 x31_2).f1)) := (blk_cell BK104.out 1).trans rfl
               have hfz39_0 := blk_frozen BK104.out 0
               have hfz39_1 := blk_frozen BK104.out 1
               go_wp2
               go_loopg [5, 67] kj25 (fun kq v5 v67 w' => ∃ (x5_5 : Int) (x67_5 : Int), v5 = .int .u64 x5_5 ∧ v67 = .int .i64 x67_5 ∧ Aside0 (proof_whole.l1 kq l0 x5_5 l1_2 (l1_2.length : Int) x31_2 ((rd_T75 l1_2 x31_2).f1) x67_5 a1_0 a1_1 l1_2 ((rd_T75 l1_2 x31_2).f0) ((rd_T75 l1_2 x31_2).f1) = some r) ∧ Aside0 (kq ≤ kj25) ∧ Aside0 (w'.heap[gb101]? = some (.cells #[.int .u64 a1_0, .int .u64 a1_1, (.slice (some ad103) l1_2.length c1_2)] 58 (0, 0))) ∧ Aside0 (w'.heap[gb104]? = some (.cells #[.int .u64 ((rd_T75 l1_2 x31_2).f0), .int .i64 ((rd_T75 l1_2 x31_2).f1)] 75 (0, 0))) ∧ Aside0 (Below w.heap.size w w'))
               case atStart => exact ⟨(x5_2), (0), (by first | rfl | (simp; done) | (simp [*]; done)), (by first | rfl | (simp; done) | (simp [*]; done)), H', ⟨Nat.le_refl _⟩, ⟨by (with_reducible repeat (first | refine blk_drewN ?_ _ | refine blk_drew ?_ | refine blk_alloc ?_ _)); exact BK101.out⟩, ⟨by (with_reducible repeat (first | refine blk_drewN ?_ _ | refine blk_drew ?_ | refine blk_alloc ?_ _)); exact BK104.out⟩, ⟨by repeat (first | (with_reducible first | exact HB.out | apply below_alloc | apply pw_below_drewN | apply below_drew1 | refine below_set ?_ GE101.out | refine below_set ?_ GE104.out) | exact HB.out)⟩⟩
               case round =>
                clear H'
                try clear c1
                try clear p1
                try clear q1
                try clear hx1
                try clear c2
                try clear p2
                try clear c3
                try clear p6
                try clear c7
                try clear p10
                try clear q10
                try clear hx10
                try clear c25
                try clear c27
                try clear c27b0
                try clear c29
                try clear c29b0
                try clear c30
                try clear c30b0
                try clear c31
                try clear c31b0
                try clear c37
                try clear c38
                try clear hcz39_0
                try clear hcz39_1
                try clear hfz39_0
                try clear hfz39_1
                try clear hfz6_0
                try clear hfz6_1
                try clear hfz6_2
                try clear hfz8_0
                try clear hfz8_1
                try clear hfz8_2
                try clear hx102_0
                try clear hx102_1
                try clear hx103_0
                try clear hx103_1
                try clear hx105_0
                try clear hx105_1
                try clear p1
                try clear p10
                try clear p102
                try clear p103
                try clear p105
                try clear p2
                try clear p6
                try clear q1
                try clear q10
                try clear q102
                try clear q103
                try clear q105
                obtain ⟨x5_5, x67_5, rfl, rfl, HA, HK5, BK101, BK104, HB⟩ := hrel
                cases gk with
                | zero => exact absurd HA.out (by simp [proof_whole.l1])
                | succ k5 =>
                 have H := HA.out
                 clear HA
                 simp only [proof_whole.l1] at H
                 by_cases c40 : x67_5 < ((rd_T75 l1_2 x31_2).f1)
                 ·rw [if_pos c40] at H
                  have c40b0 : decide (x67_5 < ((rd_T75 l1_2 x31_2).f1)) = true := decide_eq_true c40
                  clear c40
                  replace H := Option.bind_eq_some_iff.mp H
                  obtain ⟨⟨t107, t108⟩, A410, H⟩ := H
                  replace H : (if t107 > 0 then (some false) else (proof_whole.l1 k5 l0 t108 l1_2 (l1_2.length : Int) x31_2 ((rd_T75 l1_2 x31_2).f1) (wrap64 (x67_5 + 1)) a1_0 a1_1 l1_2 ((rd_T75 l1_2 x31_2).f0) ((rd_T75 l1_2 x31_2).f1))) = some r := H
                  have A41 := Aside0.mk A410
                  clear A410
                  by_cases c42 : t107 > 0
                  ·rw [if_pos c42] at H
                   have c42b0 : decide (0 < t107) = true := decide_eq_true c42
                   clear c42
                   obtain rfl := Option.some.inj H
                   have hnb43 := NB104_101.out
                   have hnc43 := NB101_104.out
                   have hcz44_0 : wr.cell? ⟨gb104, 0, none⟩ = some (.int .u64 ((rd_T75 l1_2 x31_2).f0)) := (blk_cell BK104.out 0).trans rfl
                   have hcz44_1 : wr.cell? ⟨gb104, 1, none⟩ = some (.int .i64 ((rd_T75 l1_2 x31_2).f1)) := (blk_cell BK104.out 1).trans rfl
                   have hfz44_0 := blk_frozen BK104.out 0
                   have hfz44_1 := blk_frozen BK104.out 1
                   go_wp2_with (first | ((with_reducible refine gate_callee (f := 42) rfl ?_); refine goesL_ (some 73) rfl rfl Try.func42 (by kernel_rfl) rfl #[.int .u64 x5_5, .int .u64 ((rd_T75 l1_2 x31_2).f0)] rfl (by (try simp only [List.map_toArray, List.map_cons, List.map_nil]); first | done | rfl | (simp only [List.length_drop, List.length_take]; rfl)) ?_; (with_reducible refine (bits_Mul64.calls x5_5 ((rd_T75 l1_2 x31_2).f0) t107 t108 _ A41.out).mono ?_); rintro e w' ⟨rfl, ⟨nd, rfl⟩⟩; refine ⟨_, rfl, ?_⟩))
                   go_ret
                   exact ⟨by first | rfl | (simp [errW_none, errW_some] <;> rfl) | (simp [*, errW_none, errW_some] <;> rfl), by repeat (first | (with_reducible first | exact HB.out | apply below_alloc | apply pw_below_drewN | apply below_drew1 | refine below_set ?_ GE101.out | refine below_set ?_ GE104.out) | exact HB.out)⟩
                  ·rw [if_neg c42] at H
                   have c42b0 : decide (0 < t107) = false := decide_eq_false c42
                   clear c42
                   have H' := Aside0.mk H
                   clear H
                   have hnb45 := NB104_101.out
                   have hnc45 := NB101_104.out
                   have hcz46_0 : wr.cell? ⟨gb104, 0, none⟩ = some (.int .u64 ((rd_T75 l1_2 x31_2).f0)) := (blk_cell BK104.out 0).trans rfl
                   have hcz46_1 : wr.cell? ⟨gb104, 1, none⟩ = some (.int .i64 ((rd_T75 l1_2 x31_2).f1)) := (blk_cell BK104.out 1).trans rfl
                   have hfz46_0 := blk_frozen BK104.out 0
                   have hfz46_1 := blk_frozen BK104.out 1
                   go_wp2_with (first | ((with_reducible refine gate_callee (f := 42) rfl ?_); refine goesL_ (some 73) rfl rfl Try.func42 (by kernel_rfl) rfl #[.int .u64 x5_5, .int .u64 ((rd_T75 l1_2 x31_2).f0)] rfl (by (try simp only [List.map_toArray, List.map_cons, List.map_nil]); first | done | rfl | (simp only [List.length_drop, List.length_take]; rfl)) ?_; (with_reducible refine (bits_Mul64.calls x5_5 ((rd_T75 l1_2 x31_2).f0) t107 t108 _ A41.out).mono ?_); rintro e w' ⟨rfl, ⟨nd, rfl⟩⟩; refine ⟨_, rfl, ?_⟩))
                   go_roundg k5
                   case measure => have := HJ2.out; have := HK2.out; have := HJ15.out; have := HJ25.out; have := HK5.out; omega
                   case rel => exact ⟨(t108), (wrap64 (x67_5 + 1)), (by first | rfl | (simp; done) | (simp [*]; done)), (by first | rfl | (simp; done) | (simp [*]; done)), H', ⟨by have := HJ2.out; have := HK2.out; have := HJ15.out; have := HJ25.out; have := HK5.out; omega⟩, ⟨by (with_reducible repeat (first | refine blk_drewN ?_ _ | refine blk_drew ?_ | refine blk_alloc ?_ _)); exact BK101.out⟩, ⟨by (with_reducible repeat (first | refine blk_drewN ?_ _ | refine blk_drew ?_ | refine blk_alloc ?_ _)); exact BK104.out⟩, ⟨by repeat (first | (with_reducible first | exact HB.out | apply below_alloc | apply pw_below_drewN | apply below_drew1 | refine below_set ?_ GE101.out | refine below_set ?_ GE104.out) | exact HB.out)⟩⟩
                 ·rw [if_neg c40] at H
                  have c40b0 : decide (x67_5 < ((rd_T75 l1_2 x31_2).f1)) = false := decide_eq_false c40
                  clear c40
                  have H' := Aside0.mk H
                  clear H
                  go_wp2
                  go_roundg k5
                  case measure => have := HJ2.out; have := HK2.out; have := HJ15.out; have := HJ25.out; have := HK5.out; omega
                  case rel => exact ⟨(x5_5), (wrap64 (x31_2 + 1)), (by first | rfl | (simp; done) | (simp [*]; done)), (by first | rfl | (simp; done) | (simp [*]; done)), H', ⟨by have := HJ2.out; have := HK2.out; have := HJ15.out; have := HJ25.out; have := HK5.out; omega⟩, ⟨by (with_reducible repeat (first | refine blk_drewN ?_ _ | refine blk_drew ?_ | refine blk_alloc ?_ _)); exact BK101.out⟩, ⟨by repeat (first | (with_reducible first | exact HB.out | apply below_alloc | apply pw_below_drewN | apply below_drew1 | refine below_set ?_ GE101.out | refine below_set ?_ GE104.out) | exact HB.out)⟩⟩
        ·rw [if_neg c15] at H
         exact absurd H (by simp)
       ·rw [if_neg c14] at H
        exact absurd H (by simp)
      ·rw [if_neg c13] at H
       have c13b0 : decide (x31_2 < (l1_2.length : Int)) = false := decide_eq_false c13
       clear c13
       obtain rfl := Option.some.inj H
       have hcz47_0 : wr.cell? ⟨gb101, 0, none⟩ = some (.int .u64 a1_0) := (blk_cell BK101.out 0).trans rfl
       have hcz47_1 : wr.cell? ⟨gb101, 1, none⟩ = some (.int .u64 a1_1) := (blk_cell BK101.out 1).trans rfl
       have hcz47_2 : wr.cell? ⟨gb101, 2, none⟩ = some (.slice A1_2 l1_2.length c1_2) := (blk_cell BK101.out 2).trans rfl
       have hfz47_0 := blk_frozen BK101.out 0
       have hfz47_1 := blk_frozen BK101.out 1
       have hfz47_2 := blk_frozen BK101.out 2
       go_wp2
       go_ret
       exact ⟨by first | rfl | (simp [errW_none, errW_some] <;> rfl) | (simp [*, errW_none, errW_some] <;> rfl), by repeat (first | (with_reducible first | exact HB.out | apply below_alloc | apply pw_below_drewN | apply below_drew1 | refine below_set ?_ GE101.out) | exact HB.out)⟩
end Go.Proofs.Ytndkmnjbjlfeaaa.XT
end
section
namespace Go.Proofs.Ytndkmnjbjlfeaaa.XT
open Go.RowKit Go.Proofs.Ytndkmnjbjlfeaaa.Given Go.Proofs.Ytndkmnjbjlfeaaa.Given05 Go.Proofs.Ytndkmnjbjlfeaaa.XS Go.Proofs.Ytndkmnjbjlfeaaa.Given04 Go.Proofs.Ytndkmnjbjlfeaaa.Row05 Go.Proofs.YtndkmnjbjlfeaaaW.PrintWords Go.Proofs.YtndkmnjbjlfeaaaW.PrintLast Go.Proofs.YtndkmnjbjlfeaaaW.PrintMore
attribute [local go_sem] max2_int min2_int max_two min_two max_three min_three max_four min_four   -- for this text's walks alone
set_option linter.unusedVariables false
set_option linter.unusedSimpArgs false
mutual
def proof_right.j0 : Nat → List (S58) → Bool → Int → Int → List (S75) → Option (Bool)
 | 0, _, _, _, _, _ => none
 | k + 1, x0, x31, x110000, x110001, x110002 => if x31 = true then (some false) else (if (x0.length : Int) > 0 then (if 0 ≤ (wrap64 ((x0.length : Int) - 1)) then (if (wrap64 ((x0.length : Int) - 1)) < (x0.length : Int) then (proof_right.j1 k x0 (decide (((rd_T58 x0 (wrap64 ((x0.length : Int) - 1))).f0) ≥ x110000)) x110000 x110001 x110002) else (none)) else (none)) else (proof_right.j1 k x0 false x110000 x110001 x110002))
def proof_right.j1 : Nat → List (S58) → Bool → Int → Int → List (S75) → Option (Bool)
 | 0, _, _, _, _, _ => none
 | k + 1, x0, x46, x110000, x110001, x110002 => if x46 = true then (some false) else ((proof_whole.f k x0 x110000 x110001 x110002).bind fun t111 => (if t111 = true then ((proof_full.f x110000 x110001 x110002).bind fun t112 => (some t112)) else (some false)))
end
def proof_right.f (k : Nat) (l0 : List (S58)) (a1_0 : Int) (a1_1 : Int) (l1_2 : List (S75)) : Option (Bool) := if (Go.bits .and .u64 a1_0 1) = 0 then (proof_right.j0 k l0 true a1_0 a1_1 l1_2) else (if a1_0 < 3 then (proof_right.j0 k l0 true a1_0 a1_1 l1_2) else (if a1_0 ≥ 9223372036854775808 then (proof_right.j0 k l0 true a1_0 a1_1 l1_2) else (if a1_1 < 2 then (proof_right.j0 k l0 true a1_0 a1_1 l1_2) else (proof_right.j0 k l0 (decide (a1_1 ≥ a1_0)) a1_0 a1_1 l1_2))))
theorem proof_right.mono_l : ∀ k, (∀ y0 y1 y2 y3 y4, LeO (proof_right.j0 k y0 y1 y2 y3 y4) (proof_right.j0 (k + 1) y0 y1 y2 y3 y4)) ∧ (∀ y0 y1 y2 y3 y4, LeO (proof_right.j1 k y0 y1 y2 y3 y4) (proof_right.j1 (k + 1) y0 y1 y2 y3 y4))
 | 0 => ⟨fun _ _ _ _ _ r h => by simp [proof_right.j0] at h, fun _ _ _ _ _ r h => by simp [proof_right.j1] at h⟩
 | k + 1 => by
  obtain ⟨ih0, ih1⟩ := proof_right.mono_l k
  refine ⟨?_, ?_⟩
  ·intro y0 y1 y2 y3 y4
   unfold proof_right.j0
   repeat' first
   | (with_reducible exact ih0 _ _ _ _ _)
   | (with_reducible exact ih1 _ _ _ _ _)
   | (with_reducible exact proof_whole.mono _ _ _ _ _)
   | (with_reducible exact LeO.refl _)
   | (with_reducible exact LeO.none _)
   | (with_reducible refine LeO.ite ?_ ?_)
   | (with_reducible refine LeO.bind ?_ (fun _ => ?_))
   | exact ih0 _ _ _ _ _
   | exact ih1 _ _ _ _ _
   | exact proof_whole.mono _ _ _ _ _
   | exact LeO.none _
   | refine LeO.ite ?_ ?_
   | refine LeO.bind ?_ (fun _ => ?_)
  ·intro y0 y1 y2 y3 y4
   unfold proof_right.j1
   repeat' first
   | (with_reducible exact ih0 _ _ _ _ _)
   | (with_reducible exact ih1 _ _ _ _ _)
   | (with_reducible exact proof_whole.mono _ _ _ _ _)
   | (with_reducible exact LeO.refl _)
   | (with_reducible exact LeO.none _)
   | (with_reducible refine LeO.ite ?_ ?_)
   | (with_reducible refine LeO.bind ?_ (fun _ => ?_))
   | exact ih0 _ _ _ _ _
   | exact ih1 _ _ _ _ _
   | exact proof_whole.mono _ _ _ _ _
   | exact LeO.none _
   | refine LeO.ite ?_ ?_
   | refine LeO.bind ?_ (fun _ => ?_)
theorem proof_right.mono : ∀ a0 a1 a2 a3 k, LeO (proof_right.f k a0 a1 a2 a3) (proof_right.f (k + 1) a0 a1 a2 a3) := by
 intro a0 a1 a2 a3 k
 obtain ⟨ih0, ih1⟩ := proof_right.mono_l k
 unfold proof_right.f
 repeat' first
   | (with_reducible exact ih0 _ _ _ _ _)
   | (with_reducible exact ih1 _ _ _ _ _)
   | (with_reducible exact proof_whole.mono _ _ _ _ _)
   | (with_reducible exact LeO.refl _)
   | (with_reducible exact LeO.none _)
   | (with_reducible refine LeO.ite ?_ ?_)
   | (with_reducible refine LeO.bind ?_ (fun _ => ?_))
   | exact ih0 _ _ _ _ _
   | exact ih1 _ _ _ _ _
   | exact proof_whole.mono _ _ _ _ _
   | exact LeO.none _
   | refine LeO.ite ?_ ?_
   | refine LeO.bind ?_ (fun _ => ?_)
set_option maxHeartbeats 8000000 in
set_option maxRecDepth 100000 in
theorem proof_right.calls (k : Nat) (A0 : Option Addr) (c0 : Nat) (l0 : List (S58)) (a1_0 : Int) (a1_1 : Int) (A1_2 : Option Addr) (c1_2 : Nat) (l1_2 : List (S75)) (r : Bool) (w : World) (hr0 : Kd.C k58 w A0 l0.length l0) (hc0 : l0.length ≤ c0) (hr1_2 : Kd.C k75 w A1_2 l1_2.length l1_2) (hc1_2 : l1_2.length ≤ c1_2) (h : proof_right.f k l0 a1_0 a1_1 l1_2 = some r) :
  Calls Try.prog 40 #[.slice A0 l0.length c0, .agg #[.int .u64 a1_0, .int .u64 a1_1, .slice A1_2 l1_2.length c1_2]] w fun e w' => e = .returned (.bool r) ∧ Below w.heap.size w w' := by
 have hu58 := Try.underlying58
 have HR0 := Aside0.mk hr0
 have HC0 := Aside0.mk hc0
 clear hr0 hc0
 have HR1_2 := Aside0.mk hr1_2
 have HC1_2 := Aside0.mk hc1_2
 clear hr1_2 hc1_2
 have HB := Aside0.mk (Below.refl w.heap.size w)
 have H : (if (Go.bits .and .u64 a1_0 1) = 0 then (proof_right.j0 k l0 true a1_0 a1_1 l1_2) else (if a1_0 < 3 then (proof_right.j0 k l0 true a1_0 a1_1 l1_2) else (if a1_0 ≥ 9223372036854775808 then (proof_right.j0 k l0 true a1_0 a1_1 l1_2) else (if a1_1 < 2 then (proof_right.j0 k l0 true a1_0 a1_1 l1_2) else (proof_right.j0 k l0 (decide (a1_1 ≥ a1_0)) a1_0 a1_1 l1_2))))) = some r := h
 clear h
 have HC3 := Aside0.mk H
 clear H
 go_enter Try.func40, Try.ntmps40
 go_upto_region 1 with (first | ((with_reducible refine gate_dst (N := 3) rfl ?_); refine box_event ?hg (N := 3) ?hd (cs := #[.int .u64 a1_0, .int .u64 a1_1, .slice A1_2 l1_2.length c1_2]) (t := 58) ?hr ?_; (case hd => rfl); (case hg => rfl); (case hr => first | (go_simp; done) | (go_simp; rfl)); intro gb109 hg w4 hbox hb; have n0_ := Aside0.mk (below_step (by repeat (first | (with_reducible first | exact HB.out | apply below_alloc | apply pw_below_drewN | apply below_drew1) | exact HB.out)) hb); have n1_ := Aside0.mk (hbox); have n2_ := Aside0.mk ((by rw [hg]; exact (below_size (by repeat (first | (with_reducible first | exact HB.out | apply below_alloc | apply pw_below_drewN | apply below_drew1) | exact HB.out))) : w.heap.size ≤ gb109)); have n3_ := Aside0.mk ((by rw [hg]; exact (below_size (by repeat (first | (with_reducible first | exact HB.out | apply below_alloc | apply pw_below_drewN | apply below_drew1) | exact HB.out))) : w.heap.size ≤ gb109)); clear HB; have HB := n0_; have BK109 := n1_; have GW109 := n2_; have GE109 := n3_; clear n0_ n1_ n2_ n3_; clear hb hbox hg))
 repeat (go_quiet (first | ((with_reducible refine gate_dst (N := 3) rfl ?_); refine box_event ?hg (N := 3) ?hd (cs := #[.int .u64 a1_0, .int .u64 a1_1, .slice A1_2 l1_2.length c1_2]) (t := 58) ?hr ?_; (case hd => rfl); (case hg => rfl); (case hr => first | (go_simp; done) | (go_simp; rfl)); intro gb109 hg w4 hbox hb; have n0_ := Aside0.mk (below_step (by repeat (first | (with_reducible first | exact HB.out | apply below_alloc | apply pw_below_drewN | apply below_drew1) | exact HB.out)) hb); have n1_ := Aside0.mk (hbox); have n2_ := Aside0.mk ((by rw [hg]; exact (below_size (by repeat (first | (with_reducible first | exact HB.out | apply below_alloc | apply pw_below_drewN | apply below_drew1) | exact HB.out))) : w.heap.size ≤ gb109)); have n3_ := Aside0.mk ((by rw [hg]; exact (below_size (by repeat (first | (with_reducible first | exact HB.out | apply below_alloc | apply pw_below_drewN | apply below_drew1) | exact HB.out))) : w.heap.size ≤ gb109)); clear HB; have HB := n0_; have BK109 := n1_; have GW109 := n2_; have GE109 := n3_; clear n0_ n1_ n2_ n3_; clear hb hbox hg)); go_upto_region 1 with (first | ((with_reducible refine gate_dst (N := 3) rfl ?_); refine box_event ?hg (N := 3) ?hd (cs := #[.int .u64 a1_0, .int .u64 a1_1, .slice A1_2 l1_2.length c1_2]) (t := 58) ?hr ?_; (case hd => rfl); (case hg => rfl); (case hr => first | (go_simp; done) | (go_simp; rfl)); intro gb109 hg w4 hbox hb; have n0_ := Aside0.mk (below_step (by repeat (first | (with_reducible first | exact HB.out | apply below_alloc | apply pw_below_drewN | apply below_drew1) | exact HB.out)) hb); have n1_ := Aside0.mk (hbox); have n2_ := Aside0.mk ((by rw [hg]; exact (below_size (by repeat (first | (with_reducible first | exact HB.out | apply below_alloc | apply pw_below_drewN | apply below_drew1) | exact HB.out))) : w.heap.size ≤ gb109)); have n3_ := Aside0.mk ((by rw [hg]; exact (below_size (by repeat (first | (with_reducible first | exact HB.out | apply below_alloc | apply pw_below_drewN | apply below_drew1) | exact HB.out))) : w.heap.size ≤ gb109)); clear HB; have HB := n0_; have BK109 := n1_; have GW109 := n2_; have GE109 := n3_; clear n0_ n1_ n2_ n3_; clear hb hbox hg)))
 (try simp only [Act.put, List.setIfInBounds_toArray, List.set_cons_zero, List.set_cons_succ])
 go_cut [31] (fun v31 wc => ∃ (kq : Nat) (x31_2 : Bool), v31 = .bool x31_2 ∧ Aside0 (proof_right.j0 kq l0 x31_2 a1_0 a1_1 l1_2 = some r) ∧ Aside0 (kq ≤ k) ∧ Aside0 (wc.heap[gb109]? = some (.cells #[.int .u64 a1_0, .int .u64 a1_1, (.slice A1_2 l1_2.length c1_2)] 58 (0, 0))) ∧ Aside0 (Below w.heap.size w wc))
 case first =>
  have H := HC3.out
  clear HC3
  by_cases c5 : (Go.bits .and .u64 a1_0 1) = 0
  ·rw [if_pos c5] at H
   have c5b0 : ((Go.bits .and .u64 a1_0 1) == 0) = true := beq_iff_eq.mpr c5
   have c5b1 : ((Go.bits .and .u64 a1_0 1) != 0) = false := bne_eq_false_iff_eq.mpr c5
   clear c5
   (first | rw [c5b0] | (simp only [i64_w, i32_w]; rw [c5b0]) | skip)
   have H' := Aside0.mk H
   clear H
   have hcz6_0 : w4.cell? ⟨gb109, 0, none⟩ = some (.int .u64 a1_0) := (blk_cell BK109.out 0).trans rfl
   have hcz6_1 : w4.cell? ⟨gb109, 1, none⟩ = some (.int .u64 a1_1) := (blk_cell BK109.out 1).trans rfl
   have hcz6_2 : w4.cell? ⟨gb109, 2, none⟩ = some (.slice A1_2 l1_2.length c1_2) := (blk_cell BK109.out 2).trans rfl
   have hfz6_0 := blk_frozen BK109.out 0
   have hfz6_1 := blk_frozen BK109.out 1
   have hfz6_2 := blk_frozen BK109.out 2
   go_wp2
   repeat (go_quiet (fail); try go_wp2)
   go_meet
   case rel => exact ⟨_, (true), (by first | rfl | (simp; done) | (simp [*]; done)), H', ⟨by first | omega | exact Nat.le_refl _⟩, ⟨by (with_reducible repeat (first | refine blk_drewN ?_ _ | refine blk_drew ?_ | refine blk_alloc ?_ _)); exact BK109.out⟩, ⟨by repeat (first | (with_reducible first | exact HB.out | apply below_alloc | apply pw_below_drewN | apply below_drew1 | refine below_set ?_ GE109.out) | exact HB.out)⟩⟩
  ·rw [if_neg c5] at H
   have c5b0 : ((Go.bits .and .u64 a1_0 1) == 0) = false := beq_eq_false_iff_ne.mpr c5
   have c5b1 : ((Go.bits .and .u64 a1_0 1) != 0) = true := bne_iff_ne.mpr c5
   (first | rw [c5b0] | (simp only [i64_w, i32_w]; rw [c5b0]) | skip)
   by_cases c7 : a1_0 < 3
   ·rw [if_pos c7] at H
    have c7b0 : decide (a1_0 < 3) = true := decide_eq_true c7
    clear c7
    have H' := Aside0.mk H
    clear H
    have hcz8_0 : w4.cell? ⟨gb109, 0, none⟩ = some (.int .u64 a1_0) := (blk_cell BK109.out 0).trans rfl
    have hcz8_1 : w4.cell? ⟨gb109, 1, none⟩ = some (.int .u64 a1_1) := (blk_cell BK109.out 1).trans rfl
    have hcz8_2 : w4.cell? ⟨gb109, 2, none⟩ = some (.slice A1_2 l1_2.length c1_2) := (blk_cell BK109.out 2).trans rfl
    have hfz8_0 := blk_frozen BK109.out 0
    have hfz8_1 := blk_frozen BK109.out 1
    have hfz8_2 := blk_frozen BK109.out 2
    go_wp2
    repeat (go_quiet (fail); try go_wp2)
    go_meet
    case rel => exact ⟨_, (true), (by first | rfl | (simp; done) | (simp [*]; done)), H', ⟨by first | omega | exact Nat.le_refl _⟩, ⟨by (with_reducible repeat (first | refine blk_drewN ?_ _ | refine blk_drew ?_ | refine blk_alloc ?_ _)); exact BK109.out⟩, ⟨by repeat (first | (with_reducible first | exact HB.out | apply below_alloc | apply pw_below_drewN | apply below_drew1 | refine below_set ?_ GE109.out) | exact HB.out)⟩⟩
   ·rw [if_neg c7] at H
    have c7b0 : decide (a1_0 < 3) = false := decide_eq_false c7
    clear c7
    by_cases c9 : a1_0 ≥ 9223372036854775808
    ·rw [if_pos c9] at H
     have c9b0 : decide (9223372036854775808 ≤ a1_0) = true := decide_eq_true c9
     clear c9
     have H' := Aside0.mk H
     clear H
     have hcz10_0 : w4.cell? ⟨gb109, 0, none⟩ = some (.int .u64 a1_0) := (blk_cell BK109.out 0).trans rfl
     have hcz10_1 : w4.cell? ⟨gb109, 1, none⟩ = some (.int .u64 a1_1) := (blk_cell BK109.out 1).trans rfl
     have hcz10_2 : w4.cell? ⟨gb109, 2, none⟩ = some (.slice A1_2 l1_2.length c1_2) := (blk_cell BK109.out 2).trans rfl
     have hfz10_0 := blk_frozen BK109.out 0
     have hfz10_1 := blk_frozen BK109.out 1
     have hfz10_2 := blk_frozen BK109.out 2
     go_wp2
     repeat (go_quiet (fail); try go_wp2)
     go_meet
     case rel => exact ⟨_, (true), (by first | rfl | (simp; done) | (simp [*]; done)), H', ⟨by first | omega | exact Nat.le_refl _⟩, ⟨by (with_reducible repeat (first | refine blk_drewN ?_ _ | refine blk_drew ?_ | refine blk_alloc ?_ _)); exact BK109.out⟩, ⟨by repeat (first | (with_reducible first | exact HB.out | apply below_alloc | apply pw_below_drewN | apply below_drew1 | refine below_set ?_ GE109.out) | exact HB.out)⟩⟩
    ·rw [if_neg c9] at H
     have c9b0 : decide (9223372036854775808 ≤ a1_0) = false := decide_eq_false c9
     clear c9
     by_cases c11 : a1_1 < 2
     ·rw [if_pos c11] at H
      have c11b0 : decide (a1_1 < 2) = true := decide_eq_true c11
      clear c11
      have H' := Aside0.mk H
      clear H
      have hcz12_0 : w4.cell? ⟨gb109, 0, none⟩ = some (.int .u64 a1_0) := (blk_cell BK109.out 0).trans rfl
      have hcz12_1 : w4.cell? ⟨gb109, 1, none⟩ = some (.int .u64 a1_1) := (blk_cell BK109.out 1).trans rfl
      have hcz12_2 : w4.cell? ⟨gb109, 2, none⟩ = some (.slice A1_2 l1_2.length c1_2) := (blk_cell BK109.out 2).trans rfl
      have hfz12_0 := blk_frozen BK109.out 0
      have hfz12_1 := blk_frozen BK109.out 1
      have hfz12_2 := blk_frozen BK109.out 2
      go_wp2
      repeat (go_quiet (fail); try go_wp2)
      go_meet
      case rel => exact ⟨_, (true), (by first | rfl | (simp; done) | (simp [*]; done)), H', ⟨by first | omega | exact Nat.le_refl _⟩, ⟨by (with_reducible repeat (first | refine blk_drewN ?_ _ | refine blk_drew ?_ | refine blk_alloc ?_ _)); exact BK109.out⟩, ⟨by repeat (first | (with_reducible first | exact HB.out | apply below_alloc | apply pw_below_drewN | apply below_drew1 | refine below_set ?_ GE109.out) | exact HB.out)⟩⟩
     ·rw [if_neg c11] at H
      have c11b0 : decide (a1_1 < 2) = false := decide_eq_false c11
      clear c11
      have H' := Aside0.mk H
      clear H
      have hcz13_0 : w4.cell? ⟨gb109, 0, none⟩ = some (.int .u64 a1_0) := (blk_cell BK109.out 0).trans rfl
      have hcz13_1 : w4.cell? ⟨gb109, 1, none⟩ = some (.int .u64 a1_1) := (blk_cell BK109.out 1).trans rfl
      have hcz13_2 : w4.cell? ⟨gb109, 2, none⟩ = some (.slice A1_2 l1_2.length c1_2) := (blk_cell BK109.out 2).trans rfl
      have hfz13_0 := blk_frozen BK109.out 0
      have hfz13_1 := blk_frozen BK109.out 1
      have hfz13_2 := blk_frozen BK109.out 2
      go_wp2
      repeat (go_quiet (fail); try go_wp2)
      go_meet
      case rel => exact ⟨_, (decide (a1_1 ≥ a1_0)), (by first | rfl | (simp; done) | (simp [*]; done)), H', ⟨by first | omega | exact Nat.le_refl _⟩, ⟨by (with_reducible repeat (first | refine blk_drewN ?_ _ | refine blk_drew ?_ | refine blk_alloc ?_ _)); exact BK109.out⟩, ⟨by repeat (first | (with_reducible first | exact HB.out | apply below_alloc | apply pw_below_drewN | apply below_drew1 | refine below_set ?_ GE109.out) | exact HB.out)⟩⟩
 case rest =>
  clear HC3
  try clear c1
  try clear p2
  try clear c4
  try clear c5
  try clear c5b0
  try clear c5b1
  try clear c7
  try clear c7b0
  try clear c9
  try clear c9b0
  try clear c11
  try clear c11b0
  try clear hcz10_0
  try clear hcz10_1
  try clear hcz10_2
  try clear hcz12_0
  try clear hcz12_1
  try clear hcz12_2
  try clear hcz13_0
  try clear hcz13_1
  try clear hcz13_2
  try clear hcz6_0
  try clear hcz6_1
  try clear hcz6_2
  try clear hcz8_0
  try clear hcz8_1
  try clear hcz8_2
  try clear hfz10_0
  try clear hfz10_1
  try clear hfz10_2
  try clear hfz12_0
  try clear hfz12_1
  try clear hfz12_2
  try clear hfz13_0
  try clear hfz13_1
  try clear hfz13_2
  try clear hfz6_0
  try clear hfz6_1
  try clear hfz6_2
  try clear hfz8_0
  try clear hfz8_1
  try clear hfz8_2
  obtain ⟨kq, x31_2, rfl, HA, HJ2, BK109, HB⟩ := hcut
  cases kq with
  | zero => exact absurd HA.out (by simp [proof_right.j0])
  | succ kj2 =>
   have H := HA.out
   clear HA
   simp only [proof_right.j0] at H
   by_cases c14 : x31_2 = true
   ·subst c14
    have H1 : (some false) = some r := by rw [if_pos rfl] at H <;> exact H
    clear H
    have H := H1
    clear H1
    obtain rfl := Option.some.inj H
    go_wp2
    repeat (go_quiet (fail); try go_wp2)
    go_ret
    exact ⟨by first | rfl | (simp [errW_none, errW_some] <;> rfl) | (simp [*, errW_none, errW_some] <;> rfl), by repeat (first | (with_reducible first | exact HB.out | apply below_alloc | apply pw_below_drewN | apply below_drew1 | refine below_set ?_ GE109.out) | exact HB.out)⟩
   ·replace c14 := Bool.eq_false_iff.mpr c14
    subst c14
    have H1 : (if (l0.length : Int) > 0 then (if 0 ≤ (wrap64 ((l0.length : Int) - 1)) then (if (wrap64 ((l0.length : Int) - 1)) < (l0.length : Int) then (proof_right.j1 kj2 l0 (decide (((rd_T58 l0 (wrap64 ((l0.length : Int) - 1))).f0) ≥ a1_0)) a1_0 a1_1 l1_2) else (none)) else (none)) else (proof_right.j1 kj2 l0 false a1_0 a1_1 l1_2)) = some r := by rw [if_neg (show ¬ (false = true) by decide)] at H <;> exact H
    clear H
    have H := H1
    clear H1
    have HC15 := Aside0.mk H
    clear H
    go_upto_region 4 with (fail)
    repeat (go_quiet (fail); go_upto_region 4 with (fail))
    go_cut [46] (fun v46 wc => ∃ (kq : Nat) (x46_14 : Bool), v46 = .bool x46_14 ∧ Aside0 (proof_right.j1 kq l0 x46_14 a1_0 a1_1 l1_2 = some r) ∧ Aside0 (kq ≤ kj2) ∧ Aside0 (wc.heap[gb109]? = some (.cells #[.int .u64 a1_0, .int .u64 a1_1, (.slice A1_2 l1_2.length c1_2)] 58 (0, 0))) ∧ Aside0 (Below w.heap.size w wc))
    case first =>
     have H := HC15.out
     clear HC15
     by_cases c16 : (l0.length : Int) > 0
     ·rw [if_pos c16] at H
      have c16b0 : decide (0 < (l0.length : Int)) = true := decide_eq_true c16
      have c16b1 : decide (0 < l0.length) = true := decide_eq_true (by omega)
      clear c16
      (first | rw [c16b0] | (simp only [i64_w, i32_w]; rw [c16b0]) | skip)
      obtain ⟨ji17, hji17⟩ : ∃ j_ : Int, (wrap64 ((l0.length : Int) - 1)) = j_ := ⟨_, rfl⟩
      replace H : (if 0 ≤ (ji17) then (if (ji17) < (l0.length : Int) then (proof_right.j1 kj2 l0 (decide (((rd_T58 l0 (ji17)).f0) ≥ a1_0)) a1_0 a1_1 l1_2) else (none)) else (none)) = some r := by first | (rw [hji17] at H <;> exact H) | (simp only [hji17] at H ⊢; exact H)
      have hji17w : (IntKind.i64.wrap ((l0.length : Int) - 1)) = ji17 := (i64_w _).trans hji17
      by_cases c18 : 0 ≤ (ji17)
      ·rw [if_pos c18] at H
       have c18b0 : decide (0 ≤ (ji17)) = true := decide_eq_true c18
       clear c18
       by_cases c19 : (ji17) < (l0.length : Int)
       ·rw [if_pos c19] at H
        have c19b0 : decide ((ji17) < (l0.length : Int)) = true := decide_eq_true c19
        clear c19
        have H' := Aside0.mk H
        clear H
        have p110 : 0 ≤ ((ji17) : Int) := of_decide_eq_true (by first | (with_reducible assumption) | assumption)
        have q110 : (ji17) < (l0.length : Int) := of_decide_eq_true (by first | (with_reducible assumption) | assumption)
        obtain ⟨ad110, A110_2, c110_2, e110, hx110_0, hx110_1, hx110_2, hl110_2, hi110_2⟩ := at_T58 HR0.out (ji17) p110 q110
        cases e110
        replace hx110_0 := (HB.out.cell (World.block_lt_of_cell? w _ hx110_0)).trans hx110_0
        replace hx110_1 := (HB.out.cell (World.block_lt_of_cell? w _ hx110_1)).trans hx110_1
        replace hx110_2 := (HB.out.cell (World.block_lt_of_cell? w _ hx110_2)).trans hx110_2
        have HR110_2 := Aside0.mk hi110_2
        have HC110_2 := Aside0.mk hl110_2
        clear hi110_2 hl110_2
        replace p110 := eq_true p110
        replace q110 := eq_true q110
        have hcz20_0 : wc.cell? ⟨gb109, 0, none⟩ = some (.int .u64 a1_0) := (blk_cell BK109.out 0).trans rfl
        have hcz20_1 : wc.cell? ⟨gb109, 1, none⟩ = some (.int .u64 a1_1) := (blk_cell BK109.out 1).trans rfl
        have hcz20_2 : wc.cell? ⟨gb109, 2, none⟩ = some (.slice A1_2 l1_2.length c1_2) := (blk_cell BK109.out 2).trans rfl
        have hfz20_0 := blk_frozen BK109.out 0
        have hfz20_1 := blk_frozen BK109.out 1
        have hfz20_2 := blk_frozen BK109.out 2
        go_wp2
        repeat (go_quiet (fail); try go_wp2)
        go_meet
        case rel => exact ⟨_, (decide (((rd_T58 l0 (ji17)).f0) ≥ a1_0)), (by first | rfl | (simp; done) | (simp only [← hji17] <;> (first | rfl | simp)) | (simp [*]; done)), H', ⟨by have := HJ2.out; first | omega | exact Nat.le_refl _⟩, ⟨by (with_reducible repeat (first | refine blk_drewN ?_ _ | refine blk_drew ?_ | refine blk_alloc ?_ _)); exact BK109.out⟩, ⟨by repeat (first | (with_reducible first | exact HB.out | apply below_alloc | apply pw_below_drewN | apply below_drew1 | refine below_set ?_ GE109.out) | exact HB.out)⟩⟩
       ·rw [if_neg c19] at H
        exact absurd H (by simp)
      ·rw [if_neg c18] at H
       exact absurd H (by simp)
     ·rw [if_neg c16] at H
      have c16b0 : decide (0 < (l0.length : Int)) = false := decide_eq_false c16
      have c16b1 : decide (0 < l0.length) = false := decide_eq_false (by omega)
      clear c16
      (first | rw [c16b0] | (simp only [i64_w, i32_w]; rw [c16b0]) | skip)
      have H' := Aside0.mk H
      clear H
      go_wp2
      repeat (go_quiet (fail); try go_wp2)
      go_meet
      case rel => exact ⟨_, (false), (by first | rfl | (simp; done) | (simp [*]; done)), H', ⟨by have := HJ2.out; first | omega | exact Nat.le_refl _⟩, ⟨by (with_reducible repeat (first | refine blk_drewN ?_ _ | refine blk_drew ?_ | refine blk_alloc ?_ _)); exact BK109.out⟩, ⟨by repeat (first | (with_reducible first | exact HB.out | apply below_alloc | apply pw_below_drewN | apply below_drew1 | refine below_set ?_ GE109.out) | exact HB.out)⟩⟩
    case rest =>
     clear HC15
     try clear c1
     try clear p1
     try clear q1
     try clear hx1
     try clear p2
     try clear c4
     try clear c5
     try clear c5b0
     try clear c5b1
     try clear p6
     try clear c7
     try clear c7b0
     try clear c9
     try clear c9b0
     try clear c11
     try clear c11b0
     try clear p11
     try clear q11
     try clear hx11
     try clear c14
     try clear c16
     try clear c16b0
     try clear c16b1
     try clear c18
     try clear c18b0
     try clear c19
     try clear c19b0
     try clear hcz10_0
     try clear hcz10_1
     try clear hcz10_2
     try clear hcz12_0
     try clear hcz12_1
     try clear hcz12_2
     try clear hcz13_0
     try clear hcz13_1
     try clear hcz13_2
     try clear hcz20_0
     try clear hcz20_1
     try clear hcz20_2
     try clear hcz6_0
     try clear hcz6_1
     try clear hcz6_2
     try clear hcz8_0
     try clear hcz8_1
     try clear hcz8_2
     try clear hfz10_0
     try clear hfz10_1
     try clear hfz10_2
     try clear hfz12_0
     try clear hfz12_1
     try clear hfz12_2
     try clear hfz13_0
     try clear hfz13_1
     try clear hfz13_2
     try clear hfz20_0
     try clear hfz20_1
     try clear hfz20_2
     try clear hfz6_0
     try clear hfz6_1
     try clear hfz6_2
     try clear hfz8_0
     try clear hfz8_1
     try clear hfz8_2
     try clear hx110_0
     try clear hx110_1
     try clear hx110_2
     try clear p110
     try clear p2
     try clear q110
     obtain ⟨kq, x46_14, rfl, HA, HJ14, BK109, HB⟩ := hcut
     cases kq with
     | zero => exact absurd HA.out (by simp [proof_right.j1])
     | succ kj14 =>
      have H := HA.out
      clear HA
      simp only [proof_right.j1] at H
      by_cases c21 : x46_14 = true
      ·subst c21
       have H1 : (some false) = some r := by rw [if_pos rfl] at H <;> exact H
       clear H
       have H := H1
       clear H1
       obtain rfl := Option.some.inj H
       go_wp2
       repeat (go_quiet (fail); try go_wp2)
       go_ret
       exact ⟨by first | rfl | (simp [errW_none, errW_some] <;> rfl) | (simp [*, errW_none, errW_some] <;> rfl), by repeat (first | (with_reducible first | exact HB.out | apply below_alloc | apply pw_below_drewN | apply below_drew1 | refine below_set ?_ GE109.out) | exact HB.out)⟩
      ·replace c21 := Bool.eq_false_iff.mpr c21
       subst c21
       have H1 : ((proof_whole.f kj14 l0 a1_0 a1_1 l1_2).bind fun t111 => (if t111 = true then ((proof_full.f a1_0 a1_1 l1_2).bind fun t112 => (some t112)) else (some false))) = some r := by rw [if_neg (show ¬ (false = true) by decide)] at H <;> exact H
       clear H
       have H := H1
       clear H1
       replace H := Option.bind_eq_some_iff.mp H
       obtain ⟨t111, A220, H⟩ := H
       replace H : (if t111 = true then ((proof_full.f a1_0 a1_1 l1_2).bind fun t112 => (some t112)) else (some false)) = some r := H
       have A22 := Aside0.mk A220
       clear A220
       by_cases c23 : t111 = true
       ·subst c23
        have H1 : ((proof_full.f a1_0 a1_1 l1_2).bind fun t112 => (some t112)) = some r := by rw [if_pos rfl] at H <;> exact H
        clear H
        have H := H1
        clear H1
        replace H := Option.bind_eq_some_iff.mp H
        obtain ⟨t112, A240, H⟩ := H
        replace H : (some t112) = some r := H
        have A24 := Aside0.mk A240
        clear A240
        obtain rfl := Option.some.inj H
        have hcz25_0 : wc.cell? ⟨gb109, 0, none⟩ = some (.int .u64 a1_0) := (blk_cell BK109.out 0).trans rfl
        have hcz25_1 : wc.cell? ⟨gb109, 1, none⟩ = some (.int .u64 a1_1) := (blk_cell BK109.out 1).trans rfl
        have hcz25_2 : wc.cell? ⟨gb109, 2, none⟩ = some (.slice A1_2 l1_2.length c1_2) := (blk_cell BK109.out 2).trans rfl
        have hfz25_0 := blk_frozen BK109.out 0
        have hfz25_1 := blk_frozen BK109.out 1
        have hfz25_2 := blk_frozen BK109.out 2
        go_wp2_with (first | (go_at_call 57; (with_reducible refine (proof_whole.calls kj14 _ _ l0 a1_0 a1_1 _ _ l1_2 true _ ?side1 ?side2 ?side3 ?side4 A22.out).mono ?_); (case side1 => repeat (first | exact (Kd.C_below HR0.out HB.out) | (with_reducible refine Kd.C_alloc ?_ _) | (with_reducible refine Kd.C_drewN ?_ _) | (with_reducible refine Kd.C_drew ?_))); (case side2 => exact HC0.out); (case side3 => repeat (first | exact (Kd.C_below HR1_2.out HB.out) | (with_reducible refine Kd.C_alloc ?_ _) | (with_reducible refine Kd.C_drewN ?_ _) | (with_reducible refine Kd.C_drew ?_))); (case side4 => exact HC1_2.out); rintro e w26 ⟨rfl, hb⟩; have n0_ := Aside0.mk (blk_below (g := gb109) (o := .cells #[.int .u64 a1_0, .int .u64 a1_1, .slice A1_2 l1_2.length c1_2] 58 (0, 0)) (by (with_reducible repeat (first | refine blk_drewN ?_ _ | refine blk_drew ?_ | refine blk_alloc ?_ _)); exact BK109.out) hb); have n1_ := Aside0.mk (below_step (by repeat (first | (with_reducible first | exact HB.out | apply below_alloc | apply pw_below_drewN | apply below_drew1 | refine below_set ?_ GE109.out) | exact HB.out)) hb); clear BK109; clear HB; have BK109 := n0_; have HB := n1_; clear n0_ n1_; (try clear hb); (try clear hb2); (try clear hk); (try clear hi); have hcz27_0 : w26.cell? ⟨gb109, 0, none⟩ = some (.int .u64 a1_0) := (blk_cell BK109.out 0).trans rfl; have hcz27_1 : w26.cell? ⟨gb109, 1, none⟩ = some (.int .u64 a1_1) := (blk_cell BK109.out 1).trans rfl; have hcz27_2 : w26.cell? ⟨gb109, 2, none⟩ = some (.slice A1_2 l1_2.length c1_2) := (blk_cell BK109.out 2).trans rfl; have hfz27_0 := blk_frozen BK109.out 0; have hfz27_1 := blk_frozen BK109.out 1; have hfz27_2 := blk_frozen BK109.out 2) | (go_at_call 58; (with_reducible refine (proof_full.calls a1_0 a1_1 _ _ l1_2 t112 _ ?side1 ?side2 A24.out).mono ?_); (case side1 => repeat (first | exact (Kd.C_below HR1_2.out HB.out) | (with_reducible refine Kd.C_alloc ?_ _) | (with_reducible refine Kd.C_drewN ?_ _) | (with_reducible refine Kd.C_drew ?_))); (case side2 => exact HC1_2.out); rintro e w28 ⟨rfl, hb⟩; have n0_ := Aside0.mk (blk_below (g := gb109) (o := .cells #[.int .u64 a1_0, .int .u64 a1_1, .slice A1_2 l1_2.length c1_2] 58 (0, 0)) (by (with_reducible repeat (first | refine blk_drewN ?_ _ | refine blk_drew ?_ | refine blk_alloc ?_ _)); exact BK109.out) hb); have n1_ := Aside0.mk (below_step (by repeat (first | (with_reducible first | exact HB.out | apply below_alloc | apply pw_below_drewN | apply below_drew1 | refine below_set ?_ GE109.out) | exact HB.out)) hb); clear BK109; clear HB; have BK109 := n0_; have HB := n1_; clear n0_ n1_; (try clear hb); (try clear hb2); (try clear hk); (try clear hi)))
        repeat (go_quiet (first | (go_at_call 57; (with_reducible refine (proof_whole.calls kj14 _ _ l0 a1_0 a1_1 _ _ l1_2 true _ ?side1 ?side2 ?side3 ?side4 A22.out).mono ?_); (case side1 => repeat (first | exact (Kd.C_below HR0.out HB.out) | (with_reducible refine Kd.C_alloc ?_ _) | (with_reducible refine Kd.C_drewN ?_ _) | (with_reducible refine Kd.C_drew ?_))); (case side2 => exact HC0.out); (case side3 => repeat (first | exact (Kd.C_below HR1_2.out HB.out) | (with_reducible refine Kd.C_alloc ?_ _) | (with_reducible refine Kd.C_drewN ?_ _) | (with_reducible refine Kd.C_drew ?_))); (case side4 => exact HC1_2.out); rintro e w26 ⟨rfl, hb⟩; have n0_ := Aside0.mk (blk_below (g := gb109) (o := .cells #[.int .u64 a1_0, .int .u64 a1_1, .slice A1_2 l1_2.length c1_2] 58 (0, 0)) (by (with_reducible repeat (first | refine blk_drewN ?_ _ | refine blk_drew ?_ | refine blk_alloc ?_ _)); exact BK109.out) hb); have n1_ := Aside0.mk (below_step (by repeat (first | (with_reducible first | exact HB.out | apply below_alloc | apply pw_below_drewN | apply below_drew1 | refine below_set ?_ GE109.out) | exact HB.out)) hb); clear BK109; clear HB; have BK109 := n0_; have HB := n1_; clear n0_ n1_; (try clear hb); (try clear hb2); (try clear hk); (try clear hi); have hcz27_0 : w26.cell? ⟨gb109, 0, none⟩ = some (.int .u64 a1_0) := (blk_cell BK109.out 0).trans rfl; have hcz27_1 : w26.cell? ⟨gb109, 1, none⟩ = some (.int .u64 a1_1) := (blk_cell BK109.out 1).trans rfl; have hcz27_2 : w26.cell? ⟨gb109, 2, none⟩ = some (.slice A1_2 l1_2.length c1_2) := (blk_cell BK109.out 2).trans rfl; have hfz27_0 := blk_frozen BK109.out 0; have hfz27_1 := blk_frozen BK109.out 1; have hfz27_2 := blk_frozen BK109.out 2) | (go_at_call 58; (with_reducible refine (proof_full.calls a1_0 a1_1 _ _ l1_2 t112 _ ?side1 ?side2 A24.out).mono ?_); (case side1 => repeat (first | exact (Kd.C_below HR1_2.out HB.out) | (with_reducible refine Kd.C_alloc ?_ _) | (with_reducible refine Kd.C_drewN ?_ _) | (with_reducible refine Kd.C_drew ?_))); (case side2 => exact HC1_2.out); rintro e w28 ⟨rfl, hb⟩; have n0_ := Aside0.mk (blk_below (g := gb109) (o := .cells #[.int .u64 a1_0, .int .u64 a1_1, .slice A1_2 l1_2.length c1_2] 58 (0, 0)) (by (with_reducible repeat (first | refine blk_drewN ?_ _ | refine blk_drew ?_ | refine blk_alloc ?_ _)); exact BK109.out) hb); have n1_ := Aside0.mk (below_step (by repeat (first | (with_reducible first | exact HB.out | apply below_alloc | apply pw_below_drewN | apply below_drew1 | refine below_set ?_ GE109.out) | exact HB.out)) hb); clear BK109; clear HB; have BK109 := n0_; have HB := n1_; clear n0_ n1_; (try clear hb); (try clear hb2); (try clear hk); (try clear hi))); try go_wp2_with (first | (go_at_call 57; (with_reducible refine (proof_whole.calls kj14 _ _ l0 a1_0 a1_1 _ _ l1_2 true _ ?side1 ?side2 ?side3 ?side4 A22.out).mono ?_); (case side1 => repeat (first | exact (Kd.C_below HR0.out HB.out) | (with_reducible refine Kd.C_alloc ?_ _) | (with_reducible refine Kd.C_drewN ?_ _) | (with_reducible refine Kd.C_drew ?_))); (case side2 => exact HC0.out); (case side3 => repeat (first | exact (Kd.C_below HR1_2.out HB.out) | (with_reducible refine Kd.C_alloc ?_ _) | (with_reducible refine Kd.C_drewN ?_ _) | (with_reducible refine Kd.C_drew ?_))); (case side4 => exact HC1_2.out); rintro e w26 ⟨rfl, hb⟩; have n0_ := Aside0.mk (blk_below (g := gb109) (o := .cells #[.int .u64 a1_0, .int .u64 a1_1, .slice A1_2 l1_2.length c1_2] 58 (0, 0)) (by (with_reducible repeat (first | refine blk_drewN ?_ _ | refine blk_drew ?_ | refine blk_alloc ?_ _)); exact BK109.out) hb); have n1_ := Aside0.mk (below_step (by repeat (first | (with_reducible first | exact HB.out | apply below_alloc | apply pw_below_drewN | apply below_drew1 | refine below_set ?_ GE109.out) | exact HB.out)) hb); clear BK109; clear HB; have BK109 := n0_; have HB := n1_; clear n0_ n1_; (try clear hb); (try clear hb2); (try clear hk); (try clear hi); have hcz27_0 : w26.cell? ⟨gb109, 0, none⟩ = some (.int .u64 a1_0) := (blk_cell BK109.out 0).trans rfl; have hcz27_1 : w26.cell? ⟨gb109, 1, none⟩ = some (.int .u64 a1_1) := (blk_cell BK109.out 1).trans rfl; have hcz27_2 : w26.cell? ⟨gb109, 2, none⟩ = some (.slice A1_2 l1_2.length c1_2) := (blk_cell BK109.out 2).trans rfl; have hfz27_0 := blk_frozen BK109.out 0; have hfz27_1 := blk_frozen BK109.out 1; have hfz27_2 := blk_frozen BK109.out 2) | (go_at_call 58; (with_reducible refine (proof_full.calls a1_0 a1_1 _ _ l1_2 t112 _ ?side1 ?side2 A24.out).mono ?_); (case side1 => repeat (first | exact (Kd.C_below HR1_2.out HB.out) | (with_reducible refine Kd.C_alloc ?_ _) | (with_reducible refine Kd.C_drewN ?_ _) | (with_reducible refine Kd.C_drew ?_))); (case side2 => exact HC1_2.out); rintro e w28 ⟨rfl, hb⟩; have n0_ := Aside0.mk (blk_below (g := gb109) (o := .cells #[.int .u64 a1_0, .int .u64 a1_1, .slice A1_2 l1_2.length c1_2] 58 (0, 0)) (by (with_reducible repeat (first | refine blk_drewN ?_ _ | refine blk_drew ?_ | refine blk_alloc ?_ _)); exact BK109.out) hb); have n1_ := Aside0.mk (below_step (by repeat (first | (with_reducible first | exact HB.out | apply below_alloc | apply pw_below_drewN | apply below_drew1 | refine below_set ?_ GE109.out) | exact HB.out)) hb); clear BK109; clear HB; have BK109 := n0_; have HB := n1_; clear n0_ n1_; (try clear hb); (try clear hb2); (try clear hk); (try clear hi))))
        go_ret
        exact ⟨by first | rfl | (simp [errW_none, errW_some] <;> rfl) | (simp [*, errW_none, errW_some] <;> rfl), by repeat (first | (with_reducible first | exact HB.out | apply below_alloc | apply pw_below_drewN | apply below_drew1 | refine below_set ?_ GE109.out) | exact HB.out)⟩
       ·replace c23 := Bool.eq_false_iff.mpr c23
        subst c23
        have H1 : (some false) = some r := by rw [if_neg (show ¬ (false = true) by decide)] at H <;> exact H
        clear H
        have H := H1
        clear H1
        obtain rfl := Option.some.inj H
        have hcz29_0 : wc.cell? ⟨gb109, 0, none⟩ = some (.int .u64 a1_0) := (blk_cell BK109.out 0).trans rfl
        have hcz29_1 : wc.cell? ⟨gb109, 1, none⟩ = some (.int .u64 a1_1) := (blk_cell BK109.out 1).trans rfl
        have hcz29_2 : wc.cell? ⟨gb109, 2, none⟩ = some (.slice A1_2 l1_2.length c1_2) := (blk_cell BK109.out 2).trans rfl
        have hfz29_0 := blk_frozen BK109.out 0
        have hfz29_1 := blk_frozen BK109.out 1
        have hfz29_2 := blk_frozen BK109.out 2
        go_wp2_with (first | (go_at_call 57; (with_reducible refine (proof_whole.calls kj14 _ _ l0 a1_0 a1_1 _ _ l1_2 false _ ?side1 ?side2 ?side3 ?side4 A22.out).mono ?_); (case side1 => repeat (first | exact (Kd.C_below HR0.out HB.out) | (with_reducible refine Kd.C_alloc ?_ _) | (with_reducible refine Kd.C_drewN ?_ _) | (with_reducible refine Kd.C_drew ?_))); (case side2 => exact HC0.out); (case side3 => repeat (first | exact (Kd.C_below HR1_2.out HB.out) | (with_reducible refine Kd.C_alloc ?_ _) | (with_reducible refine Kd.C_drewN ?_ _) | (with_reducible refine Kd.C_drew ?_))); (case side4 => exact HC1_2.out); rintro e w30 ⟨rfl, hb⟩; have n0_ := Aside0.mk (blk_below (g := gb109) (o := .cells #[.int .u64 a1_0, .int .u64 a1_1, .slice A1_2 l1_2.length c1_2] 58 (0, 0)) (by (with_reducible repeat (first | refine blk_drewN ?_ _ | refine blk_drew ?_ | refine blk_alloc ?_ _)); exact BK109.out) hb); have n1_ := Aside0.mk (below_step (by repeat (first | (with_reducible first | exact HB.out | apply below_alloc | apply pw_below_drewN | apply below_drew1 | refine below_set ?_ GE109.out) | exact HB.out)) hb); clear BK109; clear HB; have BK109 := n0_; have HB := n1_; clear n0_ n1_; (try clear hb); (try clear hb2); (try clear hk); (try clear hi)))
        repeat (go_quiet (first | (go_at_call 57; (with_reducible refine (proof_whole.calls kj14 _ _ l0 a1_0 a1_1 _ _ l1_2 false _ ?side1 ?side2 ?side3 ?side4 A22.out).mono ?_); (case side1 => repeat (first | exact (Kd.C_below HR0.out HB.out) | (with_reducible refine Kd.C_alloc ?_ _) | (with_reducible refine Kd.C_drewN ?_ _) | (with_reducible refine Kd.C_drew ?_))); (case side2 => exact HC0.out); (case side3 => repeat (first | exact (Kd.C_below HR1_2.out HB.out) | (with_reducible refine Kd.C_alloc ?_ _) | (with_reducible refine Kd.C_drewN ?_ _) | (with_reducible refine Kd.C_drew ?_))); (case side4 => exact HC1_2.out); rintro e w30 ⟨rfl, hb⟩; have n0_ := Aside0.mk (blk_below (g := gb109) (o := .cells #[.int .u64 a1_0, .int .u64 a1_1, .slice A1_2 l1_2.length c1_2] 58 (0, 0)) (by (with_reducible repeat (first | refine blk_drewN ?_ _ | refine blk_drew ?_ | refine blk_alloc ?_ _)); exact BK109.out) hb); have n1_ := Aside0.mk (below_step (by repeat (first | (with_reducible first | exact HB.out | apply below_alloc | apply pw_below_drewN | apply below_drew1 | refine below_set ?_ GE109.out) | exact HB.out)) hb); clear BK109; clear HB; have BK109 := n0_; have HB := n1_; clear n0_ n1_; (try clear hb); (try clear hb2); (try clear hk); (try clear hi))); try go_wp2_with (first | (go_at_call 57; (with_reducible refine (proof_whole.calls kj14 _ _ l0 a1_0 a1_1 _ _ l1_2 false _ ?side1 ?side2 ?side3 ?side4 A22.out).mono ?_); (case side1 => repeat (first | exact (Kd.C_below HR0.out HB.out) | (with_reducible refine Kd.C_alloc ?_ _) | (with_reducible refine Kd.C_drewN ?_ _) | (with_reducible refine Kd.C_drew ?_))); (case side2 => exact HC0.out); (case side3 => repeat (first | exact (Kd.C_below HR1_2.out HB.out) | (with_reducible refine Kd.C_alloc ?_ _) | (with_reducible refine Kd.C_drewN ?_ _) | (with_reducible refine Kd.C_drew ?_))); (case side4 => exact HC1_2.out); rintro e w30 ⟨rfl, hb⟩; have n0_ := Aside0.mk (blk_below (g := gb109) (o := .cells #[.int .u64 a1_0, .int .u64 a1_1, .slice A1_2 l1_2.length c1_2] 58 (0, 0)) (by (with_reducible repeat (first | refine blk_drewN ?_ _ | refine blk_drew ?_ | refine blk_alloc ?_ _)); exact BK109.out) hb); have n1_ := Aside0.mk (below_step (by repeat (first | (with_reducible first | exact HB.out | apply below_alloc | apply pw_below_drewN | apply below_drew1 | refine below_set ?_ GE109.out) | exact HB.out)) hb); clear BK109; clear HB; have BK109 := n0_; have HB := n1_; clear n0_ n1_; (try clear hb); (try clear hb2); (try clear hk); (try clear hi))))
        go_ret
        exact ⟨by first | rfl | (simp [errW_none, errW_some] <;> rfl) | (simp [*, errW_none, errW_some] <;> rfl), by repeat (first | (with_reducible first | exact HB.out | apply below_alloc | apply pw_below_drewN | apply below_drew1 | refine below_set ?_ GE109.out) | exact HB.out)⟩
def proof_Check.l0 : Nat → List (S58) → List (S58) → Int → Int → Option (Int × Int)
 | 0, _, _, _, _ => none
 | k + 1, x0, x9, x10, x11 => if x11 < x10 then (if 0 ≤ x11 then (if x11 < (x9.length : Int) then (if x11 ≤ (x0.length : Int) then ((proof_right.f k (x0.take (x11 : Int).toNat) ((rd_T58 x9 x11).f0) ((rd_T58 x9 x11).f1) ((rd_T58 x9 x11).f2)).bind fun t119 => (if t119 = true then (proof_Check.l0 k x0 x9 x10 (wrap64 (x11 + 1))) else (some (x11, 3)))) else (none)) else (none)) else (none)) else (some (0, 0))
def proof_Check.f (k : Nat) (l0 : List (S58)) : Option (Int × Int) := if (l0.length : Int) > 32 then (some (0, 13)) else (proof_Check.l0 k l0 l0 (l0.length : Int) 0)
theorem proof_Check.mono_l : ∀ k, (∀ y0 y1 y2 y3, LeO (proof_Check.l0 k y0 y1 y2 y3) (proof_Check.l0 (k + 1) y0 y1 y2 y3))
 | 0 => fun _ _ _ _ r h => by simp [proof_Check.l0] at h
 | k + 1 => by
  have ih0 := proof_Check.mono_l k
  ·intro y0 y1 y2 y3
   unfold proof_Check.l0
   repeat' first
   | (with_reducible exact ih0 _ _ _ _)
   | (with_reducible exact proof_right.mono _ _ _ _ _)
   | (with_reducible exact LeO.refl _)
   | (with_reducible exact LeO.none _)
   | (with_reducible refine LeO.ite ?_ ?_)
   | (with_reducible refine LeO.bind ?_ (fun _ => ?_))
   | exact ih0 _ _ _ _
   | exact proof_right.mono _ _ _ _ _
   | exact LeO.none _
   | refine LeO.ite ?_ ?_
   | refine LeO.bind ?_ (fun _ => ?_)
theorem proof_Check.mono : ∀ a0 k, LeO (proof_Check.f k a0) (proof_Check.f (k + 1) a0) := by
 intro a0 k
 have ih0 := proof_Check.mono_l k
 unfold proof_Check.f
 repeat' first
   | (with_reducible exact ih0 _ _ _ _)
   | (with_reducible exact proof_right.mono _ _ _ _ _)
   | (with_reducible exact LeO.refl _)
   | (with_reducible exact LeO.none _)
   | (with_reducible refine LeO.ite ?_ ?_)
   | (with_reducible refine LeO.bind ?_ (fun _ => ?_))
   | exact ih0 _ _ _ _
   | exact proof_right.mono _ _ _ _ _
   | exact LeO.none _
   | refine LeO.ite ?_ ?_
   | refine LeO.bind ?_ (fun _ => ?_)
set_option maxHeartbeats 8000000 in
set_option maxRecDepth 100000 in
theorem proof_Check.calls (k : Nat) (A0 : Option Addr) (c0 : Nat) (l0 : List (S58)) (r1 : Int) (r2 : Int) (w : World) (hr0 : Kd.C k58 w A0 l0.length l0) (hc0 : l0.length ≤ c0) (h : proof_Check.f k l0 = some (r1, r2)) :
  Calls Try.prog 22 #[.slice A0 l0.length c0] w fun e w' => e = .returned (.tuple #[.int .i64 r1, .int .i64 r2]) ∧ Below w.heap.size w w' := by
 have hu58 := Try.underlying58
 have HR0 := Aside0.mk hr0
 have HC0 := Aside0.mk hc0
 clear hr0 hc0
 have HB := Aside0.mk (Below.refl w.heap.size w)
 have H : (if (l0.length : Int) > 32 then (some (0, 13)) else (proof_Check.l0 k l0 l0 (l0.length : Int) 0)) = some (r1, r2) := h
 clear h
 by_cases c2 : (l0.length : Int) > 32
 ·rw [if_pos c2] at H
  have c2b0 : decide (32 < (l0.length : Int)) = true := decide_eq_true c2
  have c2b1 : decide (32 < l0.length) = true := decide_eq_true (by omega)
  clear c2
  simp only [Option.some.injEq, Prod.mk.injEq] at H
  obtain ⟨rfl, rfl⟩ := H
  go_enter Try.func22, Try.ntmps22
  go_wp2
  go_ret2
  exact ⟨by first | rfl | (simp [errW_none, errW_some] <;> rfl) | (simp [*, errW_none, errW_some] <;> rfl), by repeat (first | (with_reducible first | exact HB.out | apply below_alloc | apply pw_below_drewN | apply below_drew1) | exact HB.out)⟩
 ·rw [if_neg c2] at H
  have c2b0 : decide (32 < (l0.length : Int)) = false := decide_eq_false c2
  have c2b1 : decide (32 < l0.length) = false := decide_eq_false (by omega)
  clear c2
  have H' := Aside0.mk H
  clear H
  go_enter Try.func22, Try.ntmps22
  go_wp2
  go_loopg [11] k (fun kq v11 w' => ∃ (x11_1 : Int), v11 = .int .i64 x11_1 ∧ Aside0 (proof_Check.l0 kq l0 l0 (l0.length : Int) x11_1 = some (r1, r2)) ∧ Aside0 (kq ≤ k) ∧ Aside0 (Below w.heap.size w w'))
  case atStart => exact ⟨(0), (by first | rfl | (simp; done) | (simp [*]; done)), H', ⟨Nat.le_refl _⟩, ⟨by repeat (first | (with_reducible first | exact HB.out | apply below_alloc | apply pw_below_drewN | apply below_drew1) | exact HB.out)⟩⟩
  case round =>
   clear H'
   try clear c2
   try clear c2b0
   try clear c2b1
   try clear p2
   obtain ⟨x11_1, rfl, HA, HK1, HB⟩ := hrel
   cases gk with
   | zero => exact absurd HA.out (by simp [proof_Check.l0])
   | succ k1 =>
    have H := HA.out
    clear HA
    simp only [proof_Check.l0] at H
    by_cases c3 : x11_1 < (l0.length : Int)
    ·rw [if_pos c3] at H
     have c3b0 : decide (x11_1 < (l0.length : Int)) = true := decide_eq_true c3
     clear c3
     by_cases c4 : 0 ≤ x11_1
     ·rw [if_pos c4] at H
      have c4b0 : decide (0 ≤ x11_1) = true := decide_eq_true c4
      clear c4
      by_cases c5 : x11_1 < (l0.length : Int)
      ·rw [if_pos c5] at H
       have c5b0 : decide (x11_1 < (l0.length : Int)) = true := decide_eq_true c5
       clear c5
       have c6b0 := eq_true (of_decide_eq_true (by first | (with_reducible assumption) | assumption) : 0 ≤ x11_1)
       by_cases c7 : x11_1 ≤ (l0.length : Int)
       ·rw [if_pos c7] at H
        have c7b0 := eq_true c7
        have c7b1 : decide (x11_1 ≤ (l0.length : Int)) = true := decide_eq_true c7
        clear c7
        obtain ⟨y115, hy115⟩ : ∃ y_ : List (S58), y_ = (l0.take (x11_1 : Int).toNat) := ⟨_, rfl⟩
        replace H : ((proof_right.f k1 y115 ((rd_T58 l0 x11_1).f0) ((rd_T58 l0 x11_1).f1) ((rd_T58 l0 x11_1).f2)).bind fun t119 => (if t119 = true then (proof_Check.l0 k1 l0 l0 (l0.length : Int) (wrap64 (x11_1 + 1))) else (some (x11_1, 3)))) = some (r1, r2) := by first | (rw [hy115]; with_reducible exact H) | (have H2_ := (Option.bind_some _ _).symm.trans H; rw [hy115]; with_reducible exact H2_) | (have H2_ := (Option.bind_some _ _).symm.trans H; with_reducible exact H2_) | with_reducible exact H | (rw [hy115]; exact H) | exact H
        have Ny115 := Aside0.mk hy115
        clear hy115
        replace H := Option.bind_eq_some_iff.mp H
        obtain ⟨t119, A80, H⟩ := H
        replace H : (if t119 = true then (proof_Check.l0 k1 l0 l0 (l0.length : Int) (wrap64 (x11_1 + 1))) else (some (x11_1, 3))) = some (r1, r2) := H
        have A8 := Aside0.mk A80
        clear A80
        by_cases c9 : t119 = true
        ·subst c9
         have H1 : (proof_Check.l0 k1 l0 l0 (l0.length : Int) (wrap64 (x11_1 + 1))) = some (r1, r2) := by rw [if_pos rfl] at H <;> exact H
         clear H
         have H := H1
         clear H1
         have H' := Aside0.mk H
         clear H
         have p113 : 0 ≤ (x11_1 : Int) := of_decide_eq_true (by first | (with_reducible assumption) | assumption)
         have q113 : x11_1 < (l0.length : Int) := of_decide_eq_true (by first | (with_reducible assumption) | assumption)
         obtain ⟨ad113, A113_2, c113_2, e113, hx113_0, hx113_1, hx113_2, hl113_2, hi113_2⟩ := at_T58 HR0.out x11_1 p113 q113
         cases e113
         replace hx113_0 := (HB.out.cell (World.block_lt_of_cell? w _ hx113_0)).trans hx113_0
         replace hx113_1 := (HB.out.cell (World.block_lt_of_cell? w _ hx113_1)).trans hx113_1
         replace hx113_2 := (HB.out.cell (World.block_lt_of_cell? w _ hx113_2)).trans hx113_2
         have HR113_2 := Aside0.mk hi113_2
         have HC113_2 := Aside0.mk hl113_2
         clear hi113_2 hl113_2
         replace p113 := eq_true p113
         replace q113 := eq_true q113
         try go_wp2_with (first | ((with_reducible refine gate_dst (N := 5) rfl ?_); refine box_event ?hg (N := 5) ?hd (cs := #[.int .u64 0, .int .u64 0, .slice none 0 0]) (t := 58) ?hr ?_; (case hd => rfl); (case hg => rfl); (case hr => first | (go_simp; done) | (go_simp; rfl)); intro gb114 hg w10 hbox hb; have n0_ := Aside0.mk (below_step (by repeat (first | (with_reducible first | exact HB.out | apply below_alloc | apply pw_below_drewN | apply below_drew1) | exact HB.out)) hb); have n1_ := Aside0.mk (hbox); have n2_ := Aside0.mk ((by rw [hg]; exact (below_size (by repeat (first | (with_reducible first | exact HB.out | apply below_alloc | apply pw_below_drewN | apply below_drew1) | exact HB.out))) : w.heap.size ≤ gb114)); have n3_ := Aside0.mk ((by rw [hg]; exact (below_size (by repeat (first | (with_reducible first | exact HB.out | apply below_alloc | apply pw_below_drewN | apply below_drew1) | exact HB.out))) : w.heap.size ≤ gb114)); clear HB; have HB := n0_; have BK114 := n1_; have GW114 := n2_; have GE114 := n3_; clear n0_ n1_ n2_ n3_; clear hb hbox hg; have hcz11_0 : w10.cell? ⟨gb114, 0, none⟩ = some (.int .u64 0) := (blk_cell BK114.out 0).trans rfl; have hcz11_1 : w10.cell? ⟨gb114, 1, none⟩ = some (.int .u64 0) := (blk_cell BK114.out 1).trans rfl; have hcz11_2 : w10.cell? ⟨gb114, 2, none⟩ = some (.slice none 0 0) := (blk_cell BK114.out 2).trans rfl; have hfz11_0 := blk_frozen BK114.out 0; have hfz11_1 := blk_frozen BK114.out 1; have hfz11_2 := blk_frozen BK114.out 2))
         have n0_ : Aside0 ((((w10.setCell ⟨gb114, 0, none⟩ (.int .u64 ((rd_T58 l0 x11_1).f0))).setCell ⟨gb114, 1, none⟩ (.int .u64 ((rd_T58 l0 x11_1).f1))).setCell ⟨gb114, 2, none⟩ (.slice A113_2 ((rd_T58 l0 x11_1).f2).length c113_2)).heap[gb114]? = some (.cells #[.int .u64 ((rd_T58 l0 x11_1).f0), .int .u64 ((rd_T58 l0 x11_1).f1), .slice A113_2 ((rd_T58 l0 x11_1).f2).length c113_2] 58 (0, 0))) := ⟨by (with_reducible repeat (first | refine blk_drewN ?_ _ | refine blk_drew ?_ | refine blk_alloc ?_ _)); refine blk_put (cs := #[.int .u64 ((rd_T58 l0 x11_1).f0), .int .u64 ((rd_T58 l0 x11_1).f1), .slice none 0 0]) ?_ 2 _ rfl; (with_reducible repeat (first | refine blk_drewN ?_ _ | refine blk_drew ?_ | refine blk_alloc ?_ _)); refine blk_put (cs := #[.int .u64 ((rd_T58 l0 x11_1).f0), .int .u64 0, .slice none 0 0]) ?_ 1 _ rfl; (with_reducible repeat (first | refine blk_drewN ?_ _ | refine blk_drew ?_ | refine blk_alloc ?_ _)); refine blk_put (cs := #[.int .u64 0, .int .u64 0, .slice none 0 0]) ?_ 0 _ rfl; (with_reducible repeat (first | refine blk_drewN ?_ _ | refine blk_drew ?_ | refine blk_alloc ?_ _)); exact BK114.out⟩
         have n1_ : Aside0 (Below w.heap.size w (((w10.setCell ⟨gb114, 0, none⟩ (.int .u64 ((rd_T58 l0 x11_1).f0))).setCell ⟨gb114, 1, none⟩ (.int .u64 ((rd_T58 l0 x11_1).f1))).setCell ⟨gb114, 2, none⟩ (.slice A113_2 ((rd_T58 l0 x11_1).f2).length c113_2))) := ⟨by repeat (first | (with_reducible first | exact HB.out | apply below_alloc | apply pw_below_drewN | apply below_drew1 | refine below_set ?_ GE114.out) | exact HB.out)⟩
         (try clear BK114)
         (try clear HB)
         generalize (((w10.setCell ⟨gb114, 0, none⟩ (.int .u64 ((rd_T58 l0 x11_1).f0))).setCell ⟨gb114, 1, none⟩ (.int .u64 ((rd_T58 l0 x11_1).f1))).setCell ⟨gb114, 2, none⟩ (.slice A113_2 ((rd_T58 l0 x11_1).f2).length c113_2)) = w12 at n0_ n1_ ⊢
         have BK114 := n0_
         have HB := n1_
         clear n0_ n1_
         have n0_ := Aside0.mk (blk_drew BK114.out)
         have n1_ := Aside0.mk (below_drew1 HB.out)
         clear BK114
         clear HB
         have BK114 := n0_
         have HB := n1_
         clear n0_ n1_
         have q14 : (x11_1 : Int) ≤ ((l0.length : Int) : Int) := of_decide_eq_true (by first | (with_reducible assumption) | assumption)
         obtain ⟨i014, hi014, _, hsz14, _⟩ := info_parts info58
         have hroom14 : l0.length ≤ c0 := HC0.out
         have hC14 : Kd.C k58 _ (some ad113) l0.length l0 := HR0.out
         have hcut14 := cut_to (P := Try.prog) 37 58 .i64 Try.underlying37 hi014 (some ad113) l0.length c0 x11_1 (of_decide_eq_true (by first | (with_reducible assumption) | assumption)) q14 hroom14
         have hr14 := Kd.C_take (m := (x11_1 : Int).toNat) hC14 (by omega)
         have hy14 : y115.length = (x11_1 : Int).toNat := (by rw [Ny115.out, List.length_take]; omega)
         rw [← Ny115.out] at hr14
         rw [← hy14] at hcut14
         have HR118 := Aside0.mk hr14
         have HC118 := Aside0.mk (show y115.length ≤ c0 from by omega)
         clear hr14 hC14 hroom14 hi014 hsz14
         have KY14 := Aside0.mk hy14
         clear hy14
         replace q14 := eq_true q14
         refine start_ (n := 6) (S := fun w' => w'.cell? ⟨gb114, 0, none⟩ = some (.int .u64 ((rd_T58 l0 x11_1).f0)) ∧ w'.cell? ⟨gb114, 1, none⟩ = some (.int .u64 ((rd_T58 l0 x11_1).f1)) ∧ w'.cell? ⟨gb114, 2, none⟩ = some (.slice A113_2 ((rd_T58 l0 x11_1).f2).length c113_2)) (ds := []) #[false, false, false, false, false, false] (by kernel_rfl) rfl rfl ⟨(blk_cell BK114.out 0).trans rfl, (blk_cell BK114.out 1).trans rfl, (blk_cell BK114.out 2).trans rfl⟩ (fun hHeld => ?_)
         generalize w12.drew = w13 at BK114 HB HR118 hHeld ⊢
         refine pure_ (i := 0) (N := some 16) (v := ?_) (a' := ?_) #[true, false, false, false, false, false] rfl rfl (by kernel_rfl) (fun _ _ _ h => h) (Or.inl ⟨by rfl, ?_⟩) ?_ ?_
         rotate_left
         ·intro w'
          go_simp
          with_reducible rfl
         rotate_left
         ·simp only [Act.put, List.setIfInBounds_toArray, List.set_cons_zero, List.set_cons_succ, i64_w, i32_w]
          rfl
         refine pure_ (i := 1) (N := some 17) (v := ?_) (a' := ?_) #[true, true, false, false, false, false] rfl rfl (by kernel_rfl) (fun _ _ _ h => h) (Or.inl ⟨by rfl, ?_⟩) ?_ ?_
         rotate_left
         ·intro w'
          go_simp
          with_reducible rfl
         rotate_left
         ·simp only [Act.put, List.setIfInBounds_toArray, List.set_cons_zero, List.set_cons_succ, i64_w, i32_w]
          rfl
         refine pure_ (i := 2) (N := some 18) (v := ?_) (a' := ?_) #[true, true, true, false, false, false] rfl rfl (by kernel_rfl) (fun _ _ _ h => h) (Or.inl ⟨by rfl, ?_⟩) ?_ ?_
         rotate_left
         ·intro w'
          go_simp
          with_reducible rfl
         rotate_left
         ·simp only [Act.put, List.setIfInBounds_toArray, List.set_cons_zero, List.set_cons_succ, i64_w, i32_w]
          rfl
         refine take_ (i := 3) (N := some 19) (v := ?_) (a' := ?_) #[true, true, true, true, false, false] rfl rfl (by kernel_rfl) (fun _ _ _ h => h) (Or.inl ⟨by rfl, ?_⟩) hHeld ?_ ?_
         rotate_left
         ·rintro w' ⟨s0, s1, s2⟩
          go_simp
          with_reducible rfl
         rotate_left
         ·simp only [Act.put, List.setIfInBounds_toArray, List.set_cons_zero, List.set_cons_succ, i64_w, i32_w]
          rfl
         refine one_ (i := 4) (N := some 20) #[true, true, true, true, true, false] rfl rfl (by kernel_rfl) (by decide) (fun K hK => ?_)
         refine goes_ Try.func40 (by kernel_rfl) rfl #[.slice (some ad113) y115.length c0, .agg #[.int .u64 ((rd_T58 l0 x11_1).f0), .int .u64 ((rd_T58 l0 x11_1).f1), .slice A113_2 ((rd_T58 l0 x11_1).f2).length c113_2]] (by rfl) rfl rfl (by (try simp only [List.map_toArray, List.map_cons, List.map_nil]); first | done | rfl | (simp only [List.length_drop, List.length_take]; rfl)) ?_
         with_reducible refine (proof_right.calls k1 _ _ y115 ((rd_T58 l0 x11_1).f0) ((rd_T58 l0 x11_1).f1) _ _ ((rd_T58 l0 x11_1).f2) true _ ?side1 ?side2 ?side3 ?side4 A8.out).mono ?_
         (case side1 => repeat (first | exact (Kd.C_below HR118.out HB.out) | (with_reducible refine Kd.C_alloc ?_ _) | (with_reducible refine Kd.C_drewN ?_ _) | (with_reducible refine Kd.C_drew ?_)))
         (case side2 => exact HC118.out)
         (case side3 => repeat (first | exact (Kd.C_below HR113_2.out HB.out) | (with_reducible refine Kd.C_alloc ?_ _) | (with_reducible refine Kd.C_drewN ?_ _) | (with_reducible refine Kd.C_drew ?_)))
         (case side4 => exact HC113_2.out)
         rintro e w15 ⟨rfl, hb⟩
         refine ⟨_, rfl, ?_⟩
         have n0_ := Aside0.mk (blk_below (g := gb114) (o := .cells #[.int .u64 ((rd_T58 l0 x11_1).f0), .int .u64 ((rd_T58 l0 x11_1).f1), .slice A113_2 ((rd_T58 l0 x11_1).f2).length c113_2] 58 (0, 0)) (by (with_reducible repeat (first | refine blk_drewN ?_ _ | refine blk_drew ?_ | refine blk_alloc ?_ _)); exact BK114.out) hb)
         have n1_ := Aside0.mk (below_step (by repeat (first | (with_reducible first | exact HB.out | apply below_alloc | apply pw_below_drewN | apply below_drew1 | refine below_set ?_ GE114.out) | exact HB.out)) hb)
         clear BK114
         clear HB
         have BK114 := n0_
         have HB := n1_
         clear n0_ n1_
         (try clear hb)
         (try clear hb2)
         (try clear hk)
         (try clear hi)
         refine hK.out _ _ ⟨(blk_cell BK114.out 0).trans rfl, (blk_cell BK114.out 1).trans rfl, (blk_cell BK114.out 2).trans rfl⟩ (fun hHeld => ?_)
         clear hK K
         refine norm_ (a' := ?_) ?_ ?_
         rotate_left
         ·show Act.put _ (some 20) _ = _
          simp only [Act.put, List.setIfInBounds_toArray, List.set_cons_zero, List.set_cons_succ, i64_w, i32_w]
          rfl
         refine pure_ (i := 5) (N := some 21) (v := ?_) (a' := ?_) #[true, true, true, true, true, true] rfl rfl (by kernel_rfl) (fun _ _ _ h => h) (Or.inl ⟨by rfl, ?_⟩) ?_ ?_
         rotate_left
         ·intro w'
          go_simp
          with_reducible rfl
         rotate_left
         ·simp only [Act.put, List.setIfInBounds_toArray, List.set_cons_zero, List.set_cons_succ, i64_w, i32_w]
          rfl
         refine done_ (by kernel_rfl) ?_
         try go_wp2
         go_roundg k1
         case measure => have := HK1.out; omega
         case rel => exact ⟨(wrap64 (x11_1 + 1)), (by first | rfl | (simp; done) | (simp [*]; done)), H', ⟨by have := HK1.out; omega⟩, ⟨by repeat (first | (with_reducible first | exact HB.out | apply below_alloc | apply pw_below_drewN | apply below_drew1 | refine below_set ?_ GE114.out) | exact HB.out)⟩⟩
        ·replace c9 := Bool.eq_false_iff.mpr c9
         subst c9
         have H1 : (some (x11_1, 3)) = some (r1, r2) := by rw [if_neg (show ¬ (false = true) by decide)] at H <;> exact H
         clear H
         have H := H1
         clear H1
         simp only [Option.some.injEq, Prod.mk.injEq] at H
         obtain ⟨rfl, rfl⟩ := H
         have p113 : 0 ≤ (x11_1 : Int) := of_decide_eq_true (by first | (with_reducible assumption) | assumption)
         have q113 : x11_1 < (l0.length : Int) := of_decide_eq_true (by first | (with_reducible assumption) | assumption)
         obtain ⟨ad113, A113_2, c113_2, e113, hx113_0, hx113_1, hx113_2, hl113_2, hi113_2⟩ := at_T58 HR0.out x11_1 p113 q113
         cases e113
         replace hx113_0 := (HB.out.cell (World.block_lt_of_cell? w _ hx113_0)).trans hx113_0
         replace hx113_1 := (HB.out.cell (World.block_lt_of_cell? w _ hx113_1)).trans hx113_1
         replace hx113_2 := (HB.out.cell (World.block_lt_of_cell? w _ hx113_2)).trans hx113_2
         have HR113_2 := Aside0.mk hi113_2
         have HC113_2 := Aside0.mk hl113_2
         clear hi113_2 hl113_2
         replace p113 := eq_true p113
         replace q113 := eq_true q113
         try go_wp2_with (first | ((with_reducible refine gate_dst (N := 5) rfl ?_); refine box_event ?hg (N := 5) ?hd (cs := #[.int .u64 0, .int .u64 0, .slice none 0 0]) (t := 58) ?hr ?_; (case hd => rfl); (case hg => rfl); (case hr => first | (go_simp; done) | (go_simp; rfl)); intro gb114 hg w16 hbox hb; have n0_ := Aside0.mk (below_step (by repeat (first | (with_reducible first | exact HB.out | apply below_alloc | apply pw_below_drewN | apply below_drew1) | exact HB.out)) hb); have n1_ := Aside0.mk (hbox); have n2_ := Aside0.mk ((by rw [hg]; exact (below_size (by repeat (first | (with_reducible first | exact HB.out | apply below_alloc | apply pw_below_drewN | apply below_drew1) | exact HB.out))) : w.heap.size ≤ gb114)); have n3_ := Aside0.mk ((by rw [hg]; exact (below_size (by repeat (first | (with_reducible first | exact HB.out | apply below_alloc | apply pw_below_drewN | apply below_drew1) | exact HB.out))) : w.heap.size ≤ gb114)); clear HB; have HB := n0_; have BK114 := n1_; have GW114 := n2_; have GE114 := n3_; clear n0_ n1_ n2_ n3_; clear hb hbox hg; have hcz17_0 : w16.cell? ⟨gb114, 0, none⟩ = some (.int .u64 0) := (blk_cell BK114.out 0).trans rfl; have hcz17_1 : w16.cell? ⟨gb114, 1, none⟩ = some (.int .u64 0) := (blk_cell BK114.out 1).trans rfl; have hcz17_2 : w16.cell? ⟨gb114, 2, none⟩ = some (.slice none 0 0) := (blk_cell BK114.out 2).trans rfl; have hfz17_0 := blk_frozen BK114.out 0; have hfz17_1 := blk_frozen BK114.out 1; have hfz17_2 := blk_frozen BK114.out 2))
         have n0_ : Aside0 ((((w16.setCell ⟨gb114, 0, none⟩ (.int .u64 ((rd_T58 l0 x11_1).f0))).setCell ⟨gb114, 1, none⟩ (.int .u64 ((rd_T58 l0 x11_1).f1))).setCell ⟨gb114, 2, none⟩ (.slice A113_2 ((rd_T58 l0 x11_1).f2).length c113_2)).heap[gb114]? = some (.cells #[.int .u64 ((rd_T58 l0 x11_1).f0), .int .u64 ((rd_T58 l0 x11_1).f1), .slice A113_2 ((rd_T58 l0 x11_1).f2).length c113_2] 58 (0, 0))) := ⟨by (with_reducible repeat (first | refine blk_drewN ?_ _ | refine blk_drew ?_ | refine blk_alloc ?_ _)); refine blk_put (cs := #[.int .u64 ((rd_T58 l0 x11_1).f0), .int .u64 ((rd_T58 l0 x11_1).f1), .slice none 0 0]) ?_ 2 _ rfl; (with_reducible repeat (first | refine blk_drewN ?_ _ | refine blk_drew ?_ | refine blk_alloc ?_ _)); refine blk_put (cs := #[.int .u64 ((rd_T58 l0 x11_1).f0), .int .u64 0, .slice none 0 0]) ?_ 1 _ rfl; (with_reducible repeat (first | refine blk_drewN ?_ _ | refine blk_drew ?_ | refine blk_alloc ?_ _)); refine blk_put (cs := #[.int .u64 0, .int .u64 0, .slice none 0 0]) ?_ 0 _ rfl; (with_reducible repeat (first | refine blk_drewN ?_ _ | refine blk_drew ?_ | refine blk_alloc ?_ _)); exact BK114.out⟩
         have n1_ : Aside0 (Below w.heap.size w (((w16.setCell ⟨gb114, 0, none⟩ (.int .u64 ((rd_T58 l0 x11_1).f0))).setCell ⟨gb114, 1, none⟩ (.int .u64 ((rd_T58 l0 x11_1).f1))).setCell ⟨gb114, 2, none⟩ (.slice A113_2 ((rd_T58 l0 x11_1).f2).length c113_2))) := ⟨by repeat (first | (with_reducible first | exact HB.out | apply below_alloc | apply pw_below_drewN | apply below_drew1 | refine below_set ?_ GE114.out) | exact HB.out)⟩
         (try clear BK114)
         (try clear HB)
         generalize (((w16.setCell ⟨gb114, 0, none⟩ (.int .u64 ((rd_T58 l0 x11_1).f0))).setCell ⟨gb114, 1, none⟩ (.int .u64 ((rd_T58 l0 x11_1).f1))).setCell ⟨gb114, 2, none⟩ (.slice A113_2 ((rd_T58 l0 x11_1).f2).length c113_2)) = w18 at n0_ n1_ ⊢
         have BK114 := n0_
         have HB := n1_
         clear n0_ n1_
         have n0_ := Aside0.mk (blk_drew BK114.out)
         have n1_ := Aside0.mk (below_drew1 HB.out)
         clear BK114
         clear HB
         have BK114 := n0_
         have HB := n1_
         clear n0_ n1_
         have q20 : (x11_1 : Int) ≤ ((l0.length : Int) : Int) := of_decide_eq_true (by first | (with_reducible assumption) | assumption)
         obtain ⟨i020, hi020, _, hsz20, _⟩ := info_parts info58
         have hroom20 : l0.length ≤ c0 := HC0.out
         have hC20 : Kd.C k58 _ (some ad113) l0.length l0 := HR0.out
         have hcut20 := cut_to (P := Try.prog) 37 58 .i64 Try.underlying37 hi020 (some ad113) l0.length c0 x11_1 (of_decide_eq_true (by first | (with_reducible assumption) | assumption)) q20 hroom20
         have hr20 := Kd.C_take (m := (x11_1 : Int).toNat) hC20 (by omega)
         have hy20 : y115.length = (x11_1 : Int).toNat := (by rw [Ny115.out, List.length_take]; omega)
         rw [← Ny115.out] at hr20
         rw [← hy20] at hcut20
         have HR118 := Aside0.mk hr20
         have HC118 := Aside0.mk (show y115.length ≤ c0 from by omega)
         clear hr20 hC20 hroom20 hi020 hsz20
         have KY20 := Aside0.mk hy20
         clear hy20
         replace q20 := eq_true q20
         refine start_ (n := 6) (S := fun w' => w'.cell? ⟨gb114, 0, none⟩ = some (.int .u64 ((rd_T58 l0 x11_1).f0)) ∧ w'.cell? ⟨gb114, 1, none⟩ = some (.int .u64 ((rd_T58 l0 x11_1).f1)) ∧ w'.cell? ⟨gb114, 2, none⟩ = some (.slice A113_2 ((rd_T58 l0 x11_1).f2).length c113_2)) (ds := []) #[false, false, false, false, false, false] (by kernel_rfl) rfl rfl ⟨(blk_cell BK114.out 0).trans rfl, (blk_cell BK114.out 1).trans rfl, (blk_cell BK114.out 2).trans rfl⟩ (fun hHeld => ?_)
         generalize w18.drew = w19 at BK114 HB HR118 hHeld ⊢
         refine pure_ (i := 0) (N := some 16) (v := ?_) (a' := ?_) #[true, false, false, false, false, false] rfl rfl (by kernel_rfl) (fun _ _ _ h => h) (Or.inl ⟨by rfl, ?_⟩) ?_ ?_
         rotate_left
         ·intro w'
          go_simp
          with_reducible rfl
         rotate_left
         ·simp only [Act.put, List.setIfInBounds_toArray, List.set_cons_zero, List.set_cons_succ, i64_w, i32_w]
          rfl
         refine pure_ (i := 1) (N := some 17) (v := ?_) (a' := ?_) #[true, true, false, false, false, false] rfl rfl (by kernel_rfl) (fun _ _ _ h => h) (Or.inl ⟨by rfl, ?_⟩) ?_ ?_
         rotate_left
         ·intro w'
          go_simp
          with_reducible rfl
         rotate_left
         ·simp only [Act.put, List.setIfInBounds_toArray, List.set_cons_zero, List.set_cons_succ, i64_w, i32_w]
          rfl
         refine pure_ (i := 2) (N := some 18) (v := ?_) (a' := ?_) #[true, true, true, false, false, false] rfl rfl (by kernel_rfl) (fun _ _ _ h => h) (Or.inl ⟨by rfl, ?_⟩) ?_ ?_
         rotate_left
         ·intro w'
          go_simp
          with_reducible rfl
         rotate_left
         ·simp only [Act.put, List.setIfInBounds_toArray, List.set_cons_zero, List.set_cons_succ, i64_w, i32_w]
          rfl
         refine take_ (i := 3) (N := some 19) (v := ?_) (a' := ?_) #[true, true, true, true, false, false] rfl rfl (by kernel_rfl) (fun _ _ _ h => h) (Or.inl ⟨by rfl, ?_⟩) hHeld ?_ ?_
         rotate_left
         ·rintro w' ⟨s0, s1, s2⟩
          go_simp
          with_reducible rfl
         rotate_left
         ·simp only [Act.put, List.setIfInBounds_toArray, List.set_cons_zero, List.set_cons_succ, i64_w, i32_w]
          rfl
         refine one_ (i := 4) (N := some 20) #[true, true, true, true, true, false] rfl rfl (by kernel_rfl) (by decide) (fun K hK => ?_)
         refine goes_ Try.func40 (by kernel_rfl) rfl #[.slice (some ad113) y115.length c0, .agg #[.int .u64 ((rd_T58 l0 x11_1).f0), .int .u64 ((rd_T58 l0 x11_1).f1), .slice A113_2 ((rd_T58 l0 x11_1).f2).length c113_2]] (by rfl) rfl rfl (by (try simp only [List.map_toArray, List.map_cons, List.map_nil]); first | done | rfl | (simp only [List.length_drop, List.length_take]; rfl)) ?_
         with_reducible refine (proof_right.calls k1 _ _ y115 ((rd_T58 l0 x11_1).f0) ((rd_T58 l0 x11_1).f1) _ _ ((rd_T58 l0 x11_1).f2) false _ ?side1 ?side2 ?side3 ?side4 A8.out).mono ?_
         (case side1 => repeat (first | exact (Kd.C_below HR118.out HB.out) | (with_reducible refine Kd.C_alloc ?_ _) | (with_reducible refine Kd.C_drewN ?_ _) | (with_reducible refine Kd.C_drew ?_)))
         (case side2 => exact HC118.out)
         (case side3 => repeat (first | exact (Kd.C_below HR113_2.out HB.out) | (with_reducible refine Kd.C_alloc ?_ _) | (with_reducible refine Kd.C_drewN ?_ _) | (with_reducible refine Kd.C_drew ?_)))
         (case side4 => exact HC113_2.out)
         rintro e w21 ⟨rfl, hb⟩
         refine ⟨_, rfl, ?_⟩
         have n0_ := Aside0.mk (blk_below (g := gb114) (o := .cells #[.int .u64 ((rd_T58 l0 x11_1).f0), .int .u64 ((rd_T58 l0 x11_1).f1), .slice A113_2 ((rd_T58 l0 x11_1).f2).length c113_2] 58 (0, 0)) (by (with_reducible repeat (first | refine blk_drewN ?_ _ | refine blk_drew ?_ | refine blk_alloc ?_ _)); exact BK114.out) hb)
         have n1_ := Aside0.mk (below_step (by repeat (first | (with_reducible first | exact HB.out | apply below_alloc | apply pw_below_drewN | apply below_drew1 | refine below_set ?_ GE114.out) | exact HB.out)) hb)
         clear BK114
         clear HB
         have BK114 := n0_
         have HB := n1_
         clear n0_ n1_
         (try clear hb)
         (try clear hb2)
         (try clear hk)
         (try clear hi)
         refine hK.out _ _ ⟨(blk_cell BK114.out 0).trans rfl, (blk_cell BK114.out 1).trans rfl, (blk_cell BK114.out 2).trans rfl⟩ (fun hHeld => ?_)
         clear hK K
         refine norm_ (a' := ?_) ?_ ?_
         rotate_left
         ·show Act.put _ (some 20) _ = _
          simp only [Act.put, List.setIfInBounds_toArray, List.set_cons_zero, List.set_cons_succ, i64_w, i32_w]
          rfl
         refine pure_ (i := 5) (N := some 21) (v := ?_) (a' := ?_) #[true, true, true, true, true, true] rfl rfl (by kernel_rfl) (fun _ _ _ h => h) (Or.inl ⟨by rfl, ?_⟩) ?_ ?_
         rotate_left
         ·intro w'
          go_simp
          with_reducible rfl
         rotate_left
         ·simp only [Act.put, List.setIfInBounds_toArray, List.set_cons_zero, List.set_cons_succ, i64_w, i32_w]
          rfl
         refine done_ (by kernel_rfl) ?_
         try go_wp2
         go_ret2
         exact ⟨by first | rfl | (simp [errW_none, errW_some] <;> rfl) | (simp [*, errW_none, errW_some] <;> rfl), by repeat (first | (with_reducible first | exact HB.out | apply below_alloc | apply pw_below_drewN | apply below_drew1 | refine below_set ?_ GE114.out) | exact HB.out)⟩
       ·rw [if_neg c7] at H
        exact absurd H (by simp)
      ·rw [if_neg c5] at H
       exact absurd H (by simp)
     ·rw [if_neg c4] at H
      exact absurd H (by simp)
    ·rw [if_neg c3] at H
     have c3b0 : decide (x11_1 < (l0.length : Int)) = false := decide_eq_false c3
     clear c3
     simp only [Option.some.injEq, Prod.mk.injEq] at H
     obtain ⟨rfl, rfl⟩ := H
     go_wp2
     go_ret2
     exact ⟨by first | rfl | (simp [errW_none, errW_some] <;> rfl) | (simp [*, errW_none, errW_some] <;> rfl), by repeat (first | (with_reducible first | exact HB.out | apply below_alloc | apply pw_below_drewN | apply below_drew1) | exact HB.out)⟩
end Go.Proofs.Ytndkmnjbjlfeaaa.XT
end
section
namespace Go.Proofs.Ytndkmnjbjlfeaaa.XT
open Go.RowKit Go.Proofs.Ytndkmnjbjlfeaaa.Given Go.Proofs.Ytndkmnjbjlfeaaa.Given05 Go.Proofs.Ytndkmnjbjlfeaaa.XS Go.Proofs.Ytndkmnjbjlfeaaa.Given04 Go.Proofs.Ytndkmnjbjlfeaaa.Row05 Go.Proofs.YtndkmnjbjlfeaaaW.PrintWords Go.Proofs.YtndkmnjbjlfeaaaW.PrintLast Go.Proofs.YtndkmnjbjlfeaaaW.PrintMore
attribute [local go_sem] max2_int min2_int max_two min_two max_three min_three max_four min_four   -- for this text's walks alone
set_option linter.unusedVariables false
set_option linter.unusedSimpArgs false
def proof_Claim.l0 : Nat → Int → List (S58) → Int → Int → Option (Int × Int × (List (S75)) × Bool)
 | 0, _, _, _, _ => none
 | k + 1, x1, x18, x19, x20 => if x20 < x19 then (if 0 ≤ x20 then (if x20 < (x18.length : Int) then (if ((rd_T58 x18 x20).f0) = x1 then ((proof_Power.f ((rd_T58 x18 x20).f2)).bind fun t125 => (some ((rd_T58 x18 x20).f0, (rd_T58 x18 x20).f1, t125, true))) else (proof_Claim.l0 k x1 x18 x19 (wrap64 (x20 + 1)))) else (none)) else (none)) else (some (0, 0, ([] : List (S75)), false))
def proof_Claim.f (k : Nat) (l0 : List (S58)) (a1 : Int) : Option (Int × Int × (List (S75)) × Bool) := (proof_Check.f k l0).bind fun bt121 => (if bt121.2 = 0 then (proof_Claim.l0 k a1 l0 (l0.length : Int) 0) else (some (0, 0, ([] : List (S75)), false)))
theorem proof_Claim.mono_l : ∀ k, (∀ y0 y1 y2 y3, LeO (proof_Claim.l0 k y0 y1 y2 y3) (proof_Claim.l0 (k + 1) y0 y1 y2 y3))
 | 0 => fun _ _ _ _ r h => by simp [proof_Claim.l0] at h
 | k + 1 => by
  have ih0 := proof_Claim.mono_l k
  ·intro y0 y1 y2 y3
   unfold proof_Claim.l0
   repeat' first
   | (with_reducible exact ih0 _ _ _ _)
   | (with_reducible exact proof_Check.mono _ _)
   | (with_reducible exact LeO.refl _)
   | (with_reducible exact LeO.none _)
   | (with_reducible refine LeO.ite ?_ ?_)
   | (with_reducible refine LeO.bind ?_ (fun _ => ?_))
   | exact ih0 _ _ _ _
   | exact proof_Check.mono _ _
   | exact LeO.none _
   | refine LeO.ite ?_ ?_
   | refine LeO.bind ?_ (fun _ => ?_)
theorem proof_Claim.mono : ∀ a0 a1 k, LeO (proof_Claim.f k a0 a1) (proof_Claim.f (k + 1) a0 a1) := by
 intro a0 a1 k
 have ih0 := proof_Claim.mono_l k
 unfold proof_Claim.f
 repeat' first
   | (with_reducible exact ih0 _ _ _ _)
   | (with_reducible exact proof_Check.mono _ _)
   | (with_reducible exact LeO.refl _)
   | (with_reducible exact LeO.none _)
   | (with_reducible refine LeO.ite ?_ ?_)
   | (with_reducible refine LeO.bind ?_ (fun _ => ?_))
   | exact ih0 _ _ _ _
   | exact proof_Check.mono _ _
   | exact LeO.none _
   | refine LeO.ite ?_ ?_
   | refine LeO.bind ?_ (fun _ => ?_)
def proof_Claim.T8 : Bool × List (List Nat × List Nat) := (true, [([], []), ([0], [0]), ([], []), ([2], [2]), ([], []), ([4], [4]), ([5], [5]), ([1, 3, 6], [1, 3, 6]), ([7, 6, 0, 1, 2, 3, 4, 5, 6, 7], [7]), ([8, 0, 1, 2, 3, 4, 5, 6, 7, 8], [])])
def proof_Claim.B8 : List Nat := [0, 1, 0, 4, 0, 16, 48, 127, 255, 511]
theorem proof_Claim.tab8 : rtab .any (opsOf Try.f23 8) = proof_Claim.T8 := by kernel_rfl
theorem proof_Claim.bits8 : waitsOk proof_Claim.T8.2 proof_Claim.B8 = true := by kernel_rfl
set_option maxHeartbeats 8000000 in
set_option maxRecDepth 100000 in
theorem proof_Claim.calls (k : Nat) (A0 : Option Addr) (c0 : Nat) (l0 : List (S58)) (a1 : Int) (r1 : Int) (r2 : Int) (r3 : List (S75)) (r4 : Bool) (w : World) (hr0 : Kd.C k58 w A0 l0.length l0) (hc0 : l0.length ≤ c0) (h : proof_Claim.f k l0 a1 = some (r1, r2, r3, r4)) :
  Calls Try.prog 23 #[.slice A0 l0.length c0, .int .u64 a1] w fun e w' => ∃ v2_ : Value, e = .returned (.tuple #[.agg #[.int .u64 r1, .int .u64 r2, v2_], .bool r4]) ∧ Kd.R k75 75 w' w.heap.size (fun _ => True) v2_ r3 ∧ Below w.heap.size w w' := by
 have hu58 := Try.underlying58
 have HR0 := Aside0.mk hr0
 have HC0 := Aside0.mk hc0
 clear hr0 hc0
 have HB := Aside0.mk (Below.refl w.heap.size w)
 have H : ((proof_Check.f k l0).bind fun bt121 => (if bt121.2 = 0 then (proof_Claim.l0 k a1 l0 (l0.length : Int) 0) else (some (0, 0, ([] : List (S75)), false)))) = some (r1, r2, r3, r4) := h
 clear h
 replace H := Option.bind_eq_some_iff.mp H
 obtain ⟨⟨t121, t122⟩, A30, H⟩ := H
 replace H : (if t122 = 0 then (proof_Claim.l0 k a1 l0 (l0.length : Int) 0) else (some (0, 0, ([] : List (S75)), false))) = some (r1, r2, r3, r4) := H
 have A3 := Aside0.mk A30
 clear A30
 by_cases c4 : t122 = 0
 ·rw [if_pos c4] at H
  have c4b0 : (t122 == 0) = true := beq_iff_eq.mpr c4
  have c4b1 : (t122 != 0) = false := bne_eq_false_iff_eq.mpr c4
  clear c4
  have H' := Aside0.mk H
  clear H
  go_enter Try.func23, Try.ntmps23
  go_wp2_with (first | ((with_reducible refine gate_dst (N := 4) rfl ?_); refine box_event ?hg (N := 4) ?hd (cs := #[.int .u64 0, .int .u64 0, .slice none 0 0]) (t := 58) ?hr ?_; (case hd => rfl); (case hg => rfl); (case hr => first | (go_simp; done) | (go_simp; rfl)); intro gb120 hg w5 hbox hb; have n0_ := Aside0.mk (below_step (by repeat (first | (with_reducible first | exact HB.out | apply below_alloc | apply pw_below_drewN | apply below_drew1) | exact HB.out)) hb); have n1_ := Aside0.mk (hbox); have n2_ := Aside0.mk ((by rw [hg]; exact (below_size (by repeat (first | (with_reducible first | exact HB.out | apply below_alloc | apply pw_below_drewN | apply below_drew1) | exact HB.out))) : w.heap.size ≤ gb120)); have n3_ := Aside0.mk ((by rw [hg]; exact (below_size (by repeat (first | (with_reducible first | exact HB.out | apply below_alloc | apply pw_below_drewN | apply below_drew1) | exact HB.out))) : w.heap.size ≤ gb120)); clear HB; have HB := n0_; have BK120 := n1_; have GW120 := n2_; have GE120 := n3_; clear n0_ n1_ n2_ n3_; clear hb hbox hg) | ((with_reducible refine gate_callee (f := 22) rfl ?_); refine goesL_ (some 12) rfl rfl Try.func22 (by kernel_rfl) rfl #[.slice A0 l0.length c0] rfl (by (try simp only [List.map_toArray, List.map_cons, List.map_nil]); first | done | rfl | (simp only [List.length_drop, List.length_take]; rfl)) ?_; (with_reducible refine (proof_Check.calls k _ _ l0 t121 t122 _ ?side1 ?side2 A3.out).mono ?_); (case side1 => repeat (first | exact (Kd.C_below HR0.out HB.out) | (with_reducible refine Kd.C_alloc ?_ _) | (with_reducible refine Kd.C_drewN ?_ _) | (with_reducible refine Kd.C_drew ?_))); (case side2 => exact HC0.out); rintro e w6 ⟨rfl, hb⟩; refine ⟨_, rfl, ?_⟩; have n0_ := Aside0.mk (blk_below (g := gb120) (o := .cells #[.int .u64 0, .int .u64 0, .slice none 0 0] 58 (0, 0)) (by (with_reducible repeat (first | refine blk_drewN ?_ _ | refine blk_drew ?_ | refine blk_alloc ?_ _)); exact BK120.out) hb); have n1_ := Aside0.mk (below_step (by repeat (first | (with_reducible first | exact HB.out | apply below_alloc | apply pw_below_drewN | apply below_drew1 | refine below_set ?_ GE120.out) | exact HB.out)) hb); clear BK120; clear HB; have BK120 := n0_; have HB := n1_; clear n0_ n1_; (try clear hb); (try clear hb2); (try clear hk); (try clear hi)))
  go_loopg [20] k (fun kq v20 w' => ∃ (x20_1 : Int) (x121000_1 : Int) (x121001_1 : Int), v20 = .int .i64 x20_1 ∧ Aside0 (proof_Claim.l0 kq a1 l0 (l0.length : Int) x20_1 = some (r1, r2, r3, r4)) ∧ Aside0 (kq ≤ k) ∧ Aside0 (w'.heap[gb120]? = some (.cells #[.int .u64 x121000_1, .int .u64 x121001_1, (.slice none 0 0)] 58 (0, 0))) ∧ Aside0 (Below w.heap.size w w'))
  case atStart => exact ⟨(0), (0), (0), (by first | rfl | (simp; done) | (simp [*]; done)), H', ⟨Nat.le_refl _⟩, ⟨by (with_reducible repeat (first | refine blk_drewN ?_ _ | refine blk_drew ?_ | refine blk_alloc ?_ _)); exact BK120.out⟩, ⟨by repeat (first | (with_reducible first | exact HB.out | apply below_alloc | apply pw_below_drewN | apply below_drew1 | refine below_set ?_ GE120.out) | exact HB.out)⟩⟩
  case round =>
   clear H'
   try clear c2
   try clear p2
   try clear c4
   try clear c4b0
   try clear c4b1
   obtain ⟨x20_1, x121000_1, x121001_1, rfl, HA, HK1, BK120, HB⟩ := hrel
   cases gk with
   | zero => exact absurd HA.out (by simp [proof_Claim.l0])
   | succ k1 =>
    have H := HA.out
    clear HA
    simp only [proof_Claim.l0] at H
    by_cases c7 : x20_1 < (l0.length : Int)
    ·rw [if_pos c7] at H
     have c7b0 : decide (x20_1 < (l0.length : Int)) = true := decide_eq_true c7
     clear c7
     by_cases c8 : 0 ≤ x20_1
     ·rw [if_pos c8] at H
      have c8b0 : decide (0 ≤ x20_1) = true := decide_eq_true c8
      clear c8
      by_cases c9 : x20_1 < (l0.length : Int)
      ·rw [if_pos c9] at H
       have c9b0 : decide (x20_1 < (l0.length : Int)) = true := decide_eq_true c9
       clear c9
       by_cases c10 : ((rd_T58 l0 x20_1).f0) = a1
       ·rw [if_pos c10] at H
        have c10b0 : (((rd_T58 l0 x20_1).f0) == a1) = true := beq_iff_eq.mpr c10
        have c10b1 : (((rd_T58 l0 x20_1).f0) != a1) = false := bne_eq_false_iff_eq.mpr c10
        clear c10
        replace H := Option.bind_eq_some_iff.mp H
        obtain ⟨t125, A110, H⟩ := H
        replace H : (some ((rd_T58 l0 x20_1).f0, (rd_T58 l0 x20_1).f1, t125, true)) = some (r1, r2, r3, r4) := H
        have A11 := Aside0.mk A110
        clear A110
        simp only [Option.some.injEq, Prod.mk.injEq] at H
        obtain ⟨rfl, rfl, rfl, rfl⟩ := H
        have p123 : 0 ≤ (x20_1 : Int) := of_decide_eq_true (by first | (with_reducible assumption) | assumption)
        have q123 : x20_1 < (l0.length : Int) := of_decide_eq_true (by first | (with_reducible assumption) | assumption)
        obtain ⟨ad123, A123_2, c123_2, e123, hx123_0, hx123_1, hx123_2, hl123_2, hi123_2⟩ := at_T58 HR0.out x20_1 p123 q123
        cases e123
        replace hx123_0 := (HB.out.cell (World.block_lt_of_cell? w _ hx123_0)).trans hx123_0
        replace hx123_1 := (HB.out.cell (World.block_lt_of_cell? w _ hx123_1)).trans hx123_1
        replace hx123_2 := (HB.out.cell (World.block_lt_of_cell? w _ hx123_2)).trans hx123_2
        have HR123_2 := Aside0.mk hi123_2
        have HC123_2 := Aside0.mk hl123_2
        clear hi123_2 hl123_2
        replace p123 := eq_true p123
        replace q123 := eq_true q123
        try go_wp2_with (first | ((with_reducible refine gate_dst (N := 9) rfl ?_); refine box_event ?hg (N := 9) ?hd (cs := #[.int .u64 0, .int .u64 0, .slice none 0 0]) (t := 58) ?hr ?_; (case hd => rfl); (case hg => rfl); (case hr => first | (go_simp; done) | (go_simp; rfl)); intro gb124 hg w12 hbox hb; have n0_ := Aside0.mk (blk_below (g := gb120) (o := .cells #[.int .u64 x121000_1, .int .u64 x121001_1, .slice none 0 0] 58 (0, 0)) (by (with_reducible repeat (first | refine blk_drewN ?_ _ | refine blk_drew ?_ | refine blk_alloc ?_ _)); exact BK120.out) hb); have n1_ := Aside0.mk (below_step (by repeat (first | (with_reducible first | exact HB.out | apply below_alloc | apply pw_below_drewN | apply below_drew1 | refine below_set ?_ GE120.out) | exact HB.out)) hb); have n2_ := Aside0.mk (hbox); have n3_ := Aside0.mk ((by rw [hg]; exact (below_size (by repeat (first | (with_reducible first | exact HB.out | apply below_alloc | apply pw_below_drewN | apply below_drew1 | refine below_set ?_ GE120.out) | exact HB.out))) : w.heap.size ≤ gb124)); have n4_ := Aside0.mk ((by rw [hg]; exact (below_size (by repeat (first | (with_reducible first | exact HB.out | apply below_alloc | apply pw_below_drewN | apply below_drew1 | refine below_set ?_ GE120.out) | exact HB.out))) : w.heap.size ≤ gb124)); have n5_ := Aside0.mk ((by rw [hg]; exact Nat.ne_of_lt (blk_lt (g := gb120) (o := .cells #[.int .u64 x121000_1, .int .u64 x121001_1, .slice none 0 0] 58 (0, 0)) (by (with_reducible repeat (first | refine blk_drewN ?_ _ | refine blk_drew ?_ | refine blk_alloc ?_ _)); exact BK120.out)) : gb120 ≠ gb124)); have n6_ := Aside0.mk ((by rw [hg]; exact Nat.ne_of_gt (blk_lt (g := gb120) (o := .cells #[.int .u64 x121000_1, .int .u64 x121001_1, .slice none 0 0] 58 (0, 0)) (by (with_reducible repeat (first | refine blk_drewN ?_ _ | refine blk_drew ?_ | refine blk_alloc ?_ _)); exact BK120.out)) : gb124 ≠ gb120)); clear BK120; clear HB; have BK120 := n0_; have HB := n1_; have BK124 := n2_; have GW124 := n3_; have GE124 := n4_; have NB120_124 := n5_; have NB124_120 := n6_; clear n0_ n1_ n2_ n3_ n4_ n5_ n6_; clear hb hbox hg; have hnb13 := NB124_120.out; have hnc13 := NB120_124.out; have hcz14_0 : w12.cell? ⟨gb124, 0, none⟩ = some (.int .u64 0) := (blk_cell BK124.out 0).trans rfl; have hcz14_1 : w12.cell? ⟨gb124, 1, none⟩ = some (.int .u64 0) := (blk_cell BK124.out 1).trans rfl; have hcz14_2 : w12.cell? ⟨gb124, 2, none⟩ = some (.slice none 0 0) := (blk_cell BK124.out 2).trans rfl; have hfz14_0 := blk_frozen BK124.out 0; have hfz14_1 := blk_frozen BK124.out 1; have hfz14_2 := blk_frozen BK124.out 2))
        have n0_ : Aside0 ((((w12.setCell ⟨gb124, 0, none⟩ (.int .u64 ((rd_T58 l0 x20_1).f0))).setCell ⟨gb124, 1, none⟩ (.int .u64 ((rd_T58 l0 x20_1).f1))).setCell ⟨gb124, 2, none⟩ (.slice A123_2 ((rd_T58 l0 x20_1).f2).length c123_2)).heap[gb120]? = some (.cells #[.int .u64 x121000_1, .int .u64 x121001_1, .slice none 0 0] 58 (0, 0))) := ⟨by (with_reducible repeat (first | refine blk_drewN ?_ _ | refine blk_drew ?_ | refine blk_alloc ?_ _)); refine blk_far ?_ NB120_124.out _; (with_reducible repeat (first | refine blk_drewN ?_ _ | refine blk_drew ?_ | refine blk_alloc ?_ _)); refine blk_far ?_ NB120_124.out _; (with_reducible repeat (first | refine blk_drewN ?_ _ | refine blk_drew ?_ | refine blk_alloc ?_ _)); refine blk_far ?_ NB120_124.out _; (with_reducible repeat (first | refine blk_drewN ?_ _ | refine blk_drew ?_ | refine blk_alloc ?_ _)); exact BK120.out⟩
        have n1_ : Aside0 ((((w12.setCell ⟨gb124, 0, none⟩ (.int .u64 ((rd_T58 l0 x20_1).f0))).setCell ⟨gb124, 1, none⟩ (.int .u64 ((rd_T58 l0 x20_1).f1))).setCell ⟨gb124, 2, none⟩ (.slice A123_2 ((rd_T58 l0 x20_1).f2).length c123_2)).heap[gb124]? = some (.cells #[.int .u64 ((rd_T58 l0 x20_1).f0), .int .u64 ((rd_T58 l0 x20_1).f1), .slice A123_2 ((rd_T58 l0 x20_1).f2).length c123_2] 58 (0, 0))) := ⟨by (with_reducible repeat (first | refine blk_drewN ?_ _ | refine blk_drew ?_ | refine blk_alloc ?_ _)); refine blk_put (cs := #[.int .u64 ((rd_T58 l0 x20_1).f0), .int .u64 ((rd_T58 l0 x20_1).f1), .slice none 0 0]) ?_ 2 _ rfl; (with_reducible repeat (first | refine blk_drewN ?_ _ | refine blk_drew ?_ | refine blk_alloc ?_ _)); refine blk_put (cs := #[.int .u64 ((rd_T58 l0 x20_1).f0), .int .u64 0, .slice none 0 0]) ?_ 1 _ rfl; (with_reducible repeat (first | refine blk_drewN ?_ _ | refine blk_drew ?_ | refine blk_alloc ?_ _)); refine blk_put (cs := #[.int .u64 0, .int .u64 0, .slice none 0 0]) ?_ 0 _ rfl; (with_reducible repeat (first | refine blk_drewN ?_ _ | refine blk_drew ?_ | refine blk_alloc ?_ _)); exact BK124.out⟩
        have n2_ : Aside0 (Below w.heap.size w (((w12.setCell ⟨gb124, 0, none⟩ (.int .u64 ((rd_T58 l0 x20_1).f0))).setCell ⟨gb124, 1, none⟩ (.int .u64 ((rd_T58 l0 x20_1).f1))).setCell ⟨gb124, 2, none⟩ (.slice A123_2 ((rd_T58 l0 x20_1).f2).length c123_2))) := ⟨by repeat (first | (with_reducible first | exact HB.out | apply below_alloc | apply pw_below_drewN | apply below_drew1 | refine below_set ?_ GE120.out | refine below_set ?_ GE124.out) | exact HB.out)⟩
        (try clear BK120)
        (try clear BK124)
        (try clear HB)
        generalize (((w12.setCell ⟨gb124, 0, none⟩ (.int .u64 ((rd_T58 l0 x20_1).f0))).setCell ⟨gb124, 1, none⟩ (.int .u64 ((rd_T58 l0 x20_1).f1))).setCell ⟨gb124, 2, none⟩ (.slice A123_2 ((rd_T58 l0 x20_1).f2).length c123_2)) = w15 at n0_ n1_ n2_ ⊢
        have BK120 := n0_
        have BK124 := n1_
        have HB := n2_
        clear n0_ n1_ n2_
        have n0_ := Aside0.mk (blk_drew BK120.out)
        have n1_ := Aside0.mk (blk_drew BK124.out)
        have n2_ := Aside0.mk (below_drew1 HB.out)
        clear BK120
        clear BK124
        clear HB
        have BK120 := n0_
        have BK124 := n1_
        have HB := n2_
        clear n0_ n1_ n2_
        refine start_ (n := 10) (S := fun w' => w'.cell? ⟨gb124, 0, none⟩ = some (.int .u64 ((rd_T58 l0 x20_1).f0)) ∧ w'.cell? ⟨gb124, 1, none⟩ = some (.int .u64 ((rd_T58 l0 x20_1).f1)) ∧ w'.cell? ⟨gb124, 2, none⟩ = some (.slice A123_2 ((rd_T58 l0 x20_1).f2).length c123_2)) (ds := []) #[false, false, false, false, false, false, false, false, false, false] (by kernel_rfl) rfl rfl ⟨(blk_cell BK124.out 0).trans rfl, (blk_cell BK124.out 1).trans rfl, (blk_cell BK124.out 2).trans rfl⟩ (fun hHeld => ?_); refine with_tabW proof_Claim.tab8 proof_Claim.bits8 (fun HT_ HW_ => ?_)
        generalize w15.drew = w16 at BK120 BK124 HB hHeld ⊢
        refine pure_ (i := 0) (N := some 28) (v := ?_) (a' := ?_) #[true, false, false, false, false, false, false, false, false, false] rfl rfl (any_of HT_.out (by kernel_rfl)) (fun _ _ _ h => h) (Or.inl ⟨by rfl, ?_⟩) ?_ ?_
        rotate_left
        ·intro w'
         go_simp
         with_reducible rfl
        rotate_left
        ·simp only [Act.put, List.setIfInBounds_toArray, List.set_cons_zero, List.set_cons_succ, i64_w, i32_w]
         rfl
        refine pure_ (i := 2) (N := some 30) (v := ?_) (a' := ?_) #[true, false, true, false, false, false, false, false, false, false] rfl rfl (any_of HT_.out (by kernel_rfl)) (fun _ _ _ h => h) (Or.inl ⟨by rfl, ?_⟩) ?_ ?_
        rotate_left
        ·intro w'
         go_simp
         with_reducible rfl
        rotate_left
        ·simp only [Act.put, List.setIfInBounds_toArray, List.set_cons_zero, List.set_cons_succ, i64_w, i32_w]
         rfl
        refine pure_ (i := 4) (N := some 32) (v := ?_) (a' := ?_) #[true, false, true, false, true, false, false, false, false, false] rfl rfl (any_of HT_.out (by kernel_rfl)) (fun _ _ _ h => h) (Or.inl ⟨by rfl, ?_⟩) ?_ ?_
        rotate_left
        ·intro w'
         go_simp
         with_reducible rfl
        rotate_left
        ·simp only [Act.put, List.setIfInBounds_toArray, List.set_cons_zero, List.set_cons_succ, i64_w, i32_w]
         rfl
        refine take_ (i := 1) (N := some 29) (v := ?_) (a' := ?_) #[true, true, true, false, true, false, false, false, false, false] rfl rfl (take_ofW HT_.out HW_.out (by kernel_rfl)) (fun _ _ _ h => h) (Or.inl ⟨by rfl, ?_⟩) hHeld ?_ ?_
        rotate_left
        ·rintro w' ⟨s0, s1, s2⟩
         go_simp
         with_reducible rfl
        rotate_left
        ·simp only [Act.put, List.setIfInBounds_toArray, List.set_cons_zero, List.set_cons_succ, i64_w, i32_w]
         rfl
        refine take_ (i := 3) (N := some 31) (v := ?_) (a' := ?_) #[true, true, true, true, true, false, false, false, false, false] rfl rfl (take_ofW HT_.out HW_.out (by kernel_rfl)) (fun _ _ _ h => h) (Or.inl ⟨by rfl, ?_⟩) hHeld ?_ ?_
        rotate_left
        ·rintro w' ⟨s0, s1, s2⟩
         go_simp
         with_reducible rfl
        rotate_left
        ·simp only [Act.put, List.setIfInBounds_toArray, List.set_cons_zero, List.set_cons_succ, i64_w, i32_w]
         rfl
        refine take_ (i := 5) (N := some 33) (v := ?_) (a' := ?_) #[true, true, true, true, true, true, false, false, false, false] rfl rfl (take_ofW HT_.out HW_.out (by kernel_rfl)) (fun _ _ _ h => h) (Or.inl ⟨by rfl, ?_⟩) hHeld ?_ ?_
        rotate_left
        ·rintro w' ⟨s0, s1, s2⟩
         go_simp
         with_reducible rfl
        rotate_left
        ·simp only [Act.put, List.setIfInBounds_toArray, List.set_cons_zero, List.set_cons_succ, i64_w, i32_w]
         rfl
        refine one_ (i := 6) (N := some 34) #[true, true, true, true, true, true, true, false, false, false] rfl rfl (one_of HT_.out (by kernel_rfl)) (by decide) (fun K hK => ?_)
        refine goes_ Try.func41 (by kernel_rfl) rfl #[.slice A123_2 ((rd_T58 l0 x20_1).f2).length c123_2] (by rfl) rfl rfl (by (try simp only [List.map_toArray, List.map_cons, List.map_nil]); first | done | rfl | (simp only [List.length_drop, List.length_take]; rfl)) ?_
        with_reducible refine (proof_Power.calls _ _ ((rd_T58 l0 x20_1).f2) t125 _ ?side1 ?side2 A11.out).mono ?_
        (case side1 => repeat (first | exact (Kd.C_below HR123_2.out HB.out) | (with_reducible refine Kd.C_alloc ?_ _) | (with_reducible refine Kd.C_drewN ?_ _) | (with_reducible refine Kd.C_drew ?_)))
        (case side2 => exact HC123_2.out)
        rintro e w17 ⟨v126, rfl, ho0, hb⟩
        refine ⟨_, rfl, ?_⟩
        have n0_ := Aside0.mk (Kd.R_lower ho0 (below_size (by repeat (first | (with_reducible first | exact HB.out | apply below_alloc | apply pw_below_drewN | apply below_drew1 | refine below_set ?_ GE120.out | refine below_set ?_ GE124.out) | exact HB.out))))
        have n1_ := Aside0.mk (blk_below (g := gb120) (o := .cells #[.int .u64 x121000_1, .int .u64 x121001_1, .slice none 0 0] 58 (0, 0)) (by (with_reducible repeat (first | refine blk_drewN ?_ _ | refine blk_drew ?_ | refine blk_alloc ?_ _)); exact BK120.out) hb)
        have n2_ := Aside0.mk (blk_below (g := gb124) (o := .cells #[.int .u64 ((rd_T58 l0 x20_1).f0), .int .u64 ((rd_T58 l0 x20_1).f1), .slice A123_2 ((rd_T58 l0 x20_1).f2).length c123_2] 58 (0, 0)) (by (with_reducible repeat (first | refine blk_drewN ?_ _ | refine blk_drew ?_ | refine blk_alloc ?_ _)); exact BK124.out) hb)
        have n3_ := Aside0.mk (below_step (by repeat (first | (with_reducible first | exact HB.out | apply below_alloc | apply pw_below_drewN | apply below_drew1 | refine below_set ?_ GE120.out | refine below_set ?_ GE124.out) | exact HB.out)) hb)
        clear BK120
        clear BK124
        clear HB
        have HO127 := n0_
        have BK120 := n1_
        have BK124 := n2_
        have HB := n3_
        clear n0_ n1_ n2_ n3_
        (try clear hb)
        (try clear hb2)
        (try clear hk)
        (try clear hi)
        (try clear ho0)
        obtain ⟨Ao18, co18, eo18⟩ := Kd.R_slice HO127.out
        (first | subst eo18 | (injection eo18 with f1_ f2_ f3_; have f4_ := f1_.symm; have f5_ := f3_.symm; clear f1_ f2_ f3_; subst f4_; subst f5_))
        refine hK.out _ _ ⟨(blk_cell BK124.out 0).trans rfl, (blk_cell BK124.out 1).trans rfl, (blk_cell BK124.out 2).trans rfl⟩ (fun hHeld => ?_)
        clear hK K
        refine norm_ (a' := ?_) ?_ ?_
        rotate_left
        ·show Act.put _ (some 34) _ = _
         simp only [Act.put, List.setIfInBounds_toArray, List.set_cons_zero, List.set_cons_succ, i64_w, i32_w]
         rfl
        refine pure_ (i := 7) (N := some 35) (v := ?_) (a' := ?_) #[true, true, true, true, true, true, true, true, false, false] rfl rfl (any_of HT_.out (by kernel_rfl)) (fun _ _ _ h => h) (Or.inl ⟨by rfl, ?_⟩) ?_ ?_
        rotate_left
        ·intro w'
         go_simp
         with_reducible rfl
        rotate_left
        ·simp only [Act.put, List.setIfInBounds_toArray, List.set_cons_zero, List.set_cons_succ, i64_w, i32_w]
         rfl
        refine one_ (i := 8) (N := none) #[true, true, true, true, true, true, true, true, true, false] rfl rfl (one_of HT_.out (by kernel_rfl)) (by decide) (fun K hK => ?_)
        have hs19 : w17.cell? ⟨gb120, 0, none⟩ = some (.int .u64 x121000_1) := (blk_cell BK120.out 0).trans rfl
        have hfs19 := blk_frozen BK120.out 0
        have hns19_1 := NB124_120.out
        have hms19_1 := NB120_124.out
        have hs20 : w17.cell? ⟨gb120, 1, none⟩ = some (.int .u64 x121001_1) := (blk_cell BK120.out 1).trans rfl
        have hfs20 := blk_frozen BK120.out 1
        have hns20_1 := NB124_120.out
        have hms20_1 := NB120_124.out
        have hs21 : w17.cell? ⟨gb120, 2, none⟩ = some (.slice none 0 0) := (blk_cell BK120.out 2).trans rfl
        have hfs21 := blk_frozen BK120.out 2
        have hns21_1 := NB124_120.out
        have hms21_1 := NB120_124.out
        refine skip_ (w1 := ?_) (by rfl) rfl ?_ ?_
        rotate_left
        ·go_simp
         rfl
        refine hK.out _ _ ⟨((cell_far (p := ⟨gb120, _, none⟩) NB124_120.out _).trans (((cell_far (p := ⟨gb120, _, none⟩) NB124_120.out _).trans (((cell_far (p := ⟨gb120, _, none⟩) NB124_120.out _).trans (hHeld.1)))))), ((cell_far (p := ⟨gb120, _, none⟩) NB124_120.out _).trans (((cell_far (p := ⟨gb120, _, none⟩) NB124_120.out _).trans (((cell_far (p := ⟨gb120, _, none⟩) NB124_120.out _).trans (hHeld.2.1)))))), ((cell_far (p := ⟨gb120, _, none⟩) NB124_120.out _).trans (((cell_far (p := ⟨gb120, _, none⟩) NB124_120.out _).trans (((cell_far (p := ⟨gb120, _, none⟩) NB124_120.out _).trans (hHeld.2.2))))))⟩ (fun hHeld => ?_)
        clear hK K
        refine pure_ (i := 9) (N := some 5) (v := ?_) (a' := ?_) #[true, true, true, true, true, true, true, true, true, true] rfl rfl (any_of HT_.out (by kernel_rfl)) (fun _ _ _ h => h) (Or.inl ⟨by rfl, ?_⟩) ?_ ?_
        rotate_left
        ·intro w'
         go_simp
         with_reducible rfl
        rotate_left
        ·simp only [Act.put, List.setIfInBounds_toArray, List.set_cons_zero, List.set_cons_succ, i64_w, i32_w]
         rfl
        refine done_ (done_of HT_.out (by kernel_rfl)) ?_
        try go_wp2
        refine bodyPost_ret (results_ct rfl _ _ gb120 58 #[.int .u64 ((rd_T58 l0 x20_1).f0), .int .u64 ((rd_T58 l0 x20_1).f1), .slice Ao18 t125.length co18] (0, 0) _ rfl (by (with_reducible repeat (first | refine blk_drewN ?_ _ | refine blk_drew ?_ | refine blk_alloc ?_ _)); refine blk_put (cs := #[.int .u64 ((rd_T58 l0 x20_1).f0), .int .u64 ((rd_T58 l0 x20_1).f1), .slice none 0 0]) ?_ 2 _ rfl; (with_reducible repeat (first | refine blk_drewN ?_ _ | refine blk_drew ?_ | refine blk_alloc ?_ _)); refine blk_put (cs := #[.int .u64 ((rd_T58 l0 x20_1).f0), .int .u64 x121001_1, .slice none 0 0]) ?_ 1 _ rfl; (with_reducible repeat (first | refine blk_drewN ?_ _ | refine blk_drew ?_ | refine blk_alloc ?_ _)); refine blk_put (cs := #[.int .u64 x121000_1, .int .u64 x121001_1, .slice none 0 0]) ?_ 0 _ rfl; (with_reducible repeat (first | refine blk_drewN ?_ _ | refine blk_drew ?_ | refine blk_alloc ?_ _)); exact BK120.out) Try.underlying58 rfl (by kernel_rfl)) rfl ?_
        exact ⟨_, by first | rfl | (simp [errW_none, errW_some] <;> rfl) | (simp [*, errW_none, errW_some] <;> rfl), by (with_reducible repeat (first | apply Kd.R_alloc | apply Kd.R_drewN | apply Kd.R_drew)); exact Kd.R_mono (Kd.R_far (p := ⟨gb120, 2, none⟩) (Kd.R_far (p := ⟨gb120, 1, none⟩) (Kd.R_far (p := ⟨gb120, 0, none⟩) (Kd.R_types HO127.out BK120.out (by decide)) (fun _ hk => hk.2) (.int .u64 ((rd_T58 l0 x20_1).f0))) (fun _ hk => hk.2) (.int .u64 ((rd_T58 l0 x20_1).f1))) (fun _ hk => hk.2) (.slice Ao18 t125.length co18)) (fun _ hk => trivial), by repeat (first | (with_reducible first | exact HB.out | apply below_alloc | apply pw_below_drewN | apply below_drew1 | refine below_set ?_ GE120.out | refine below_set ?_ GE124.out) | exact HB.out)⟩
       ·rw [if_neg c10] at H
        have c10b0 : (((rd_T58 l0 x20_1).f0) == a1) = false := beq_eq_false_iff_ne.mpr c10
        have c10b1 : (((rd_T58 l0 x20_1).f0) != a1) = true := bne_iff_ne.mpr c10
        have H' := Aside0.mk H
        clear H
        have p123 : 0 ≤ (x20_1 : Int) := of_decide_eq_true (by first | (with_reducible assumption) | assumption)
        have q123 : x20_1 < (l0.length : Int) := of_decide_eq_true (by first | (with_reducible assumption) | assumption)
        obtain ⟨ad123, A123_2, c123_2, e123, hx123_0, hx123_1, hx123_2, hl123_2, hi123_2⟩ := at_T58 HR0.out x20_1 p123 q123
        cases e123
        replace hx123_0 := (HB.out.cell (World.block_lt_of_cell? w _ hx123_0)).trans hx123_0
        replace hx123_1 := (HB.out.cell (World.block_lt_of_cell? w _ hx123_1)).trans hx123_1
        replace hx123_2 := (HB.out.cell (World.block_lt_of_cell? w _ hx123_2)).trans hx123_2
        have HR123_2 := Aside0.mk hi123_2
        have HC123_2 := Aside0.mk hl123_2
        clear hi123_2 hl123_2
        replace p123 := eq_true p123
        replace q123 := eq_true q123
        go_wp2_with (first | ((with_reducible refine gate_dst (N := 9) rfl ?_); refine box_event ?hg (N := 9) ?hd (cs := #[.int .u64 0, .int .u64 0, .slice none 0 0]) (t := 58) ?hr ?_; (case hd => rfl); (case hg => rfl); (case hr => first | (go_simp; done) | (go_simp; rfl)); intro gb124 hg w22 hbox hb; have n0_ := Aside0.mk (blk_below (g := gb120) (o := .cells #[.int .u64 x121000_1, .int .u64 x121001_1, .slice none 0 0] 58 (0, 0)) (by (with_reducible repeat (first | refine blk_drewN ?_ _ | refine blk_drew ?_ | refine blk_alloc ?_ _)); exact BK120.out) hb); have n1_ := Aside0.mk (below_step (by repeat (first | (with_reducible first | exact HB.out | apply below_alloc | apply pw_below_drewN | apply below_drew1 | refine below_set ?_ GE120.out) | exact HB.out)) hb); have n2_ := Aside0.mk (hbox); have n3_ := Aside0.mk ((by rw [hg]; exact (below_size (by repeat (first | (with_reducible first | exact HB.out | apply below_alloc | apply pw_below_drewN | apply below_drew1 | refine below_set ?_ GE120.out) | exact HB.out))) : w.heap.size ≤ gb124)); have n4_ := Aside0.mk ((by rw [hg]; exact (below_size (by repeat (first | (with_reducible first | exact HB.out | apply below_alloc | apply pw_below_drewN | apply below_drew1 | refine below_set ?_ GE120.out) | exact HB.out))) : w.heap.size ≤ gb124)); have n5_ := Aside0.mk ((by rw [hg]; exact Nat.ne_of_lt (blk_lt (g := gb120) (o := .cells #[.int .u64 x121000_1, .int .u64 x121001_1, .slice none 0 0] 58 (0, 0)) (by (with_reducible repeat (first | refine blk_drewN ?_ _ | refine blk_drew ?_ | refine blk_alloc ?_ _)); exact BK120.out)) : gb120 ≠ gb124)); have n6_ := Aside0.mk ((by rw [hg]; exact Nat.ne_of_gt (blk_lt (g := gb120) (o := .cells #[.int .u64 x121000_1, .int .u64 x121001_1, .slice none 0 0] 58 (0, 0)) (by (with_reducible repeat (first | refine blk_drewN ?_ _ | refine blk_drew ?_ | refine blk_alloc ?_ _)); exact BK120.out)) : gb124 ≠ gb120)); clear BK120; clear HB; have BK120 := n0_; have HB := n1_; have BK124 := n2_; have GW124 := n3_; have GE124 := n4_; have NB120_124 := n5_; have NB124_120 := n6_; clear n0_ n1_ n2_ n3_ n4_ n5_ n6_; clear hb hbox hg; have hnb23 := NB124_120.out; have hnc23 := NB120_124.out; have hcz24_0 : w22.cell? ⟨gb124, 0, none⟩ = some (.int .u64 0) := (blk_cell BK124.out 0).trans rfl; have hcz24_1 : w22.cell? ⟨gb124, 1, none⟩ = some (.int .u64 0) := (blk_cell BK124.out 1).trans rfl; have hcz24_2 : w22.cell? ⟨gb124, 2, none⟩ = some (.slice none 0 0) := (blk_cell BK124.out 2).trans rfl; have hfz24_0 := blk_frozen BK124.out 0; have hfz24_1 := blk_frozen BK124.out 1; have hfz24_2 := blk_frozen BK124.out 2))
        go_roundg k1
        case measure => have := HK1.out; omega
        case rel => exact ⟨(wrap64 (x20_1 + 1)), (x121000_1), (x121001_1), (by first | rfl | (simp; done) | (simp [*]; done)), H', ⟨by have := HK1.out; omega⟩, ⟨by (with_reducible repeat (first | refine blk_drewN ?_ _ | refine blk_drew ?_ | refine blk_alloc ?_ _)); refine blk_far ?_ NB120_124.out _; (with_reducible repeat (first | refine blk_drewN ?_ _ | refine blk_drew ?_ | refine blk_alloc ?_ _)); refine blk_far ?_ NB120_124.out _; (with_reducible repeat (first | refine blk_drewN ?_ _ | refine blk_drew ?_ | refine blk_alloc ?_ _)); refine blk_far ?_ NB120_124.out _; (with_reducible repeat (first | refine blk_drewN ?_ _ | refine blk_drew ?_ | refine blk_alloc ?_ _)); exact BK120.out⟩, ⟨by repeat (first | (with_reducible first | exact HB.out | apply below_alloc | apply pw_below_drewN | apply below_drew1 | refine below_set ?_ GE120.out | refine below_set ?_ GE124.out) | exact HB.out)⟩⟩
      ·rw [if_neg c9] at H
       exact absurd H (by simp)
     ·rw [if_neg c8] at H
      exact absurd H (by simp)
    ·rw [if_neg c7] at H
     have c7b0 : decide (x20_1 < (l0.length : Int)) = false := decide_eq_false c7
     clear c7
     simp only [Option.some.injEq, Prod.mk.injEq] at H
     obtain ⟨rfl, rfl, rfl, rfl⟩ := H
     have hcz25_0 : wr.cell? ⟨gb120, 0, none⟩ = some (.int .u64 x121000_1) := (blk_cell BK120.out 0).trans rfl
     have hcz25_1 : wr.cell? ⟨gb120, 1, none⟩ = some (.int .u64 x121001_1) := (blk_cell BK120.out 1).trans rfl
     have hcz25_2 : wr.cell? ⟨gb120, 2, none⟩ = some (.slice none 0 0) := (blk_cell BK120.out 2).trans rfl
     have hfz25_0 := blk_frozen BK120.out 0
     have hfz25_1 := blk_frozen BK120.out 1
     have hfz25_2 := blk_frozen BK120.out 2
     go_wp2
     refine bodyPost_ret (results_ct rfl _ _ gb120 58 #[.int .u64 0, .int .u64 0, .slice none 0 0] (0, 0) _ rfl (by (with_reducible repeat (first | refine blk_drewN ?_ _ | refine blk_drew ?_ | refine blk_alloc ?_ _)); refine blk_put (cs := #[.int .u64 0, .int .u64 0, .slice none 0 0]) ?_ 2 _ rfl; (with_reducible repeat (first | refine blk_drewN ?_ _ | refine blk_drew ?_ | refine blk_alloc ?_ _)); refine blk_put (cs := #[.int .u64 0, .int .u64 x121001_1, .slice none 0 0]) ?_ 1 _ rfl; (with_reducible repeat (first | refine blk_drewN ?_ _ | refine blk_drew ?_ | refine blk_alloc ?_ _)); refine blk_put (cs := #[.int .u64 x121000_1, .int .u64 x121001_1, .slice none 0 0]) ?_ 0 _ rfl; (with_reducible repeat (first | refine blk_drewN ?_ _ | refine blk_drew ?_ | refine blk_alloc ?_ _)); exact BK120.out) Try.underlying58 rfl (by kernel_rfl)) rfl ?_
     exact ⟨_, by first | rfl | (simp [errW_none, errW_some] <;> rfl) | (simp [*, errW_none, errW_some] <;> rfl), by first | exact Kd.R_nil _ _ _ _ _ | exact Kd.N_nil _ _ _ _ _ | exact Kd.V_nil _ _ _ _ _ | exact Kd.Q_nil _ _ _ _ _ | exact Kd.S_nil _ _ _ _ _, by repeat (first | (with_reducible first | exact HB.out | apply below_alloc | apply pw_below_drewN | apply below_drew1 | refine below_set ?_ GE120.out) | exact HB.out)⟩
 ·rw [if_neg c4] at H
  have c4b0 : (t122 == 0) = false := beq_eq_false_iff_ne.mpr c4
  have c4b1 : (t122 != 0) = true := bne_iff_ne.mpr c4
  simp only [Option.some.injEq, Prod.mk.injEq] at H
  obtain ⟨rfl, rfl, rfl, rfl⟩ := H
  go_enter Try.func23, Try.ntmps23
  go_wp2_with (first | ((with_reducible refine gate_dst (N := 4) rfl ?_); refine box_event ?hg (N := 4) ?hd (cs := #[.int .u64 0, .int .u64 0, .slice none 0 0]) (t := 58) ?hr ?_; (case hd => rfl); (case hg => rfl); (case hr => first | (go_simp; done) | (go_simp; rfl)); intro gb120 hg w26 hbox hb; have n0_ := Aside0.mk (below_step (by repeat (first | (with_reducible first | exact HB.out | apply below_alloc | apply pw_below_drewN | apply below_drew1) | exact HB.out)) hb); have n1_ := Aside0.mk (hbox); have n2_ := Aside0.mk ((by rw [hg]; exact (below_size (by repeat (first | (with_reducible first | exact HB.out | apply below_alloc | apply pw_below_drewN | apply below_drew1) | exact HB.out))) : w.heap.size ≤ gb120)); have n3_ := Aside0.mk ((by rw [hg]; exact (below_size (by repeat (first | (with_reducible first | exact HB.out | apply below_alloc | apply pw_below_drewN | apply below_drew1) | exact HB.out))) : w.heap.size ≤ gb120)); clear HB; have HB := n0_; have BK120 := n1_; have GW120 := n2_; have GE120 := n3_; clear n0_ n1_ n2_ n3_; clear hb hbox hg) | ((with_reducible refine gate_callee (f := 22) rfl ?_); refine goesL_ (some 12) rfl rfl Try.func22 (by kernel_rfl) rfl #[.slice A0 l0.length c0] rfl (by (try simp only [List.map_toArray, List.map_cons, List.map_nil]); first | done | rfl | (simp only [List.length_drop, List.length_take]; rfl)) ?_; (with_reducible refine (proof_Check.calls k _ _ l0 t121 t122 _ ?side1 ?side2 A3.out).mono ?_); (case side1 => repeat (first | exact (Kd.C_below HR0.out HB.out) | (with_reducible refine Kd.C_alloc ?_ _) | (with_reducible refine Kd.C_drewN ?_ _) | (with_reducible refine Kd.C_drew ?_))); (case side2 => exact HC0.out); rintro e w27 ⟨rfl, hb⟩; refine ⟨_, rfl, ?_⟩; have n0_ := Aside0.mk (blk_below (g := gb120) (o := .cells #[.int .u64 0, .int .u64 0, .slice none 0 0] 58 (0, 0)) (by (with_reducible repeat (first | refine blk_drewN ?_ _ | refine blk_drew ?_ | refine blk_alloc ?_ _)); exact BK120.out) hb); have n1_ := Aside0.mk (below_step (by repeat (first | (with_reducible first | exact HB.out | apply below_alloc | apply pw_below_drewN | apply below_drew1 | refine below_set ?_ GE120.out) | exact HB.out)) hb); clear BK120; clear HB; have BK120 := n0_; have HB := n1_; clear n0_ n1_; (try clear hb); (try clear hb2); (try clear hk); (try clear hi); have hcz28_0 : w27.cell? ⟨gb120, 0, none⟩ = some (.int .u64 0) := (blk_cell BK120.out 0).trans rfl; have hcz28_1 : w27.cell? ⟨gb120, 1, none⟩ = some (.int .u64 0) := (blk_cell BK120.out 1).trans rfl; have hcz28_2 : w27.cell? ⟨gb120, 2, none⟩ = some (.slice none 0 0) := (blk_cell BK120.out 2).trans rfl; have hfz28_0 := blk_frozen BK120.out 0; have hfz28_1 := blk_frozen BK120.out 1; have hfz28_2 := blk_frozen BK120.out 2))
  refine bodyPost_ret (results_ct rfl _ _ gb120 58 #[.int .u64 0, .int .u64 0, .slice none 0 0] (0, 0) _ rfl (by (with_reducible repeat (first | refine blk_drewN ?_ _ | refine blk_drew ?_ | refine blk_alloc ?_ _)); refine blk_put (cs := #[.int .u64 0, .int .u64 0, .slice none 0 0]) ?_ 2 _ rfl; (with_reducible repeat (first | refine blk_drewN ?_ _ | refine blk_drew ?_ | refine blk_alloc ?_ _)); refine blk_put (cs := #[.int .u64 0, .int .u64 0, .slice none 0 0]) ?_ 1 _ rfl; (with_reducible repeat (first | refine blk_drewN ?_ _ | refine blk_drew ?_ | refine blk_alloc ?_ _)); refine blk_put (cs := #[.int .u64 0, .int .u64 0, .slice none 0 0]) ?_ 0 _ rfl; (with_reducible repeat (first | refine blk_drewN ?_ _ | refine blk_drew ?_ | refine blk_alloc ?_ _)); exact BK120.out) Try.underlying58 rfl (by kernel_rfl)) rfl ?_
  exact ⟨_, by first | rfl | (simp [errW_none, errW_some] <;> rfl) | (simp [*, errW_none, errW_some] <;> rfl), by first | exact Kd.R_nil _ _ _ _ _ | exact Kd.N_nil _ _ _ _ _ | exact Kd.V_nil _ _ _ _ _ | exact Kd.Q_nil _ _ _ _ _ | exact Kd.S_nil _ _ _ _ _, by repeat (first | (with_reducible first | exact HB.out | apply below_alloc | apply pw_below_drewN | apply below_drew1 | refine below_set ?_ GE120.out) | exact HB.out)⟩
end Go.Proofs.Ytndkmnjbjlfeaaa.XT
end
section

end
section
namespace Go.Proofs.Ytndkmnjbjlfeaaa.F06
open Go Go.RowKit Go.Proofs.YtndkmnjbjlfeaaaW.PrintWords Go.Proofs.YtndkmnjbjlfeaaaW.PrintLast Go.Proofs.YtndkmnjbjlfeaaaW.PrintMore Go.Proofs.Ytndkmnjbjlfeaaa.Given Go.Proofs.Ytndkmnjbjlfeaaa.M Go.Proofs.Ytndkmnjbjlfeaaa.Mont Go.Proofs.Ytndkmnjbjlfeaaa.XS Go.Proofs.Ytndkmnjbjlfeaaa.XT Go.Proofs.Ytndkmnjbjlfeaaa.Given04
instance (x : Int) : Decidable (GoodM x) := by unfold GoodM; infer_instance
theorem reps_single {α : Type} {R : α → List Value → Prop} {size : Nat} {p : α} {c : List Value} (h : R p c) (hl : c.length = size) : Reps R size [p] c := by
  have := (Reps.none R size).snoc h hl
  simpa using this
theorem fld_own {w : World} {base g gc : Nat} {t : Int} {v : Value} {ok : Nat → Prop} {F : Fld} (hk : ok g) (hb : base ≤ g)
    (hh : w.heap[g]? = some (.cells #[.pointer (some ⟨gc, 0, none⟩), .int .u64 F.p, .int .u64 F.g, v] 67 (0, 0)))
    (h1 : ok gc) (hne : gc ≠ g) (h2 : base ≤ gc) (hc : CtxBlk w gc F.p t) (hm : GoodM F.p) (ht : U t) (hd : (18446744073709551616 : Int) ∣ F.p * t + 1) (hg : U F.g)
    (hr : Kd.R k75 75 w base (fun k => ok k ∧ k ≠ g) v F.l) :
    Kd.R kFld 67 w base ok (.slice (some ⟨g, 0, none⟩) 1 1) [F] := by
  refine ⟨fun k e => by simp [Value.ownBlock] at e; subst e; exact hk, _, ⟨rfl, .inr ⟨g, 1, _, rfl, hb, hh, Nat.le_refl _, by decide, rfl, rfl⟩⟩, ?_⟩
  refine reps_single (size := 4) ?_ rfl
  refine ⟨gc, t, v, rfl, ⟨h1, by simp [Value.ownBlock]; exact hne⟩, h2, hc, hm, ht, hd, hg, Kd.R_mono hr (fun k hk => ⟨hk.1, by simp [Value.ownBlock]; exact hk.2⟩)⟩
def field_New.f (k : Nat) (l0 : List S58) (a1 : Int) : Option (List Fld × Int) :=
  (proof_Check.f k l0).bind fun c => if c.2 = 0 then ((proof_Claim.f k l0 a1).bind fun q => if q.2.2.2 = true then (if q.1 = a1 ∧ GoodM a1 ∧ U q.2.1 then some ([⟨q.1, q.2.1, q.2.2.1⟩], 0) else none) else some ([], 14)) else some ([], c.2)
theorem field_New.mono : ∀ a0 a1 k, LeO (field_New.f k a0 a1) (field_New.f (k + 1) a0 a1) := by
  intro a0 a1 k
  unfold field_New.f
  refine LeO.bind (proof_Check.mono _ _) (fun _ => LeO.ite (LeO.bind (proof_Claim.mono _ _ _) (fun _ => LeO.refl _)) (LeO.refl _))
section
variable {k : Nat} {A0 : Option Addr} {c0 : Nat} {l0 : List S58} {a1 : Int} {w : World}
theorem New_uncheck (hr0 : Kd.C k58 w A0 l0.length l0) (hc0 : l0.length ≤ c0) {c1 c2 : Int} (h1 : proof_Check.f k l0 = some (c1, c2)) (hn : ¬ c2 = 0) :
    Calls Try.prog 11 #[.slice A0 l0.length c0, .int .u64 a1] w fun e w' => e = .returned (.tuple #[.pointer none, .int .i64 c2]) ∧ Below w.heap.size w w' := by
  have HR := Aside0.mk hr0
  have HC := Aside0.mk hc0
  have H1 := Aside0.mk h1
  have b1 : (c2 != 0) = true := bne_iff_ne.mpr hn
  clear hr0 hc0 h1 hn
  go_enter Try.func11, Try.ntmps11
  go_wp2_with (go_at_call 22; (with_reducible refine (proof_Check.calls k A0 c0 l0 c1 c2 _ HR.out HC.out H1.out).mono ?_); rintro e w1 ⟨rfl, hb⟩; have HB1 := Aside0.mk hb; clear hb)
  go_ret2
  exact ⟨by first | rfl | (simp; done), HB1.out⟩
theorem New_unclaimed (hr0 : Kd.C k58 w A0 l0.length l0) (hc0 : l0.length ≤ c0) {c1 P G : Int} {Fs : List S75} (h1 : proof_Check.f k l0 = some (c1, 0)) (h2 : proof_Claim.f k l0 a1 = some (P, G, Fs, false)) :
    Calls Try.prog 11 #[.slice A0 l0.length c0, .int .u64 a1] w fun e w' => e = .returned (.tuple #[.pointer none, .int .i64 14]) ∧ Below w.heap.size w w' := by
  have HR := Aside0.mk hr0
  have HC := Aside0.mk hc0
  have H1 := Aside0.mk h1
  have H2 := Aside0.mk h2
  clear hr0 hc0 h1 h2
  go_enter Try.func11, Try.ntmps11
  go_wp2_with (first
    | (go_at_call 22; (with_reducible refine (proof_Check.calls k A0 c0 l0 c1 0 _ HR.out HC.out H1.out).mono ?_); rintro e w1 ⟨rfl, hb⟩; have HB1 := Aside0.mk hb; clear hb)
    | (go_at_call 23; (with_reducible refine (proof_Claim.calls k A0 c0 l0 a1 P G Fs false _ (Kd.C_below HR.out HB1.out) HC.out H2.out).mono ?_); rintro e w2 ⟨v2, rfl, ho, hb⟩; obtain ⟨A2, c2, rfl⟩ := Kd.R_slice ho; have HO2 := Aside0.mk ho; (have HB2 : Aside0 (Below w.heap.size w w2) := ⟨below_step HB1.out hb⟩); clear hb ho)
    )
  go_ret2
  exact ⟨by first | rfl | (simp; done), by repeat (first | exact HB2.out | apply below_alloc | apply pw_below_drewN)⟩
set_option maxHeartbeats 2000000 in
theorem New_made (hr0 : Kd.C k58 w A0 l0.length l0) (hc0 : l0.length ≤ c0) {c1 G : Int} {Fs : List S75} (h1 : proof_Check.f k l0 = some (c1, 0)) (h2 : proof_Claim.f k l0 a1 = some (a1, G, Fs, true)) (hm : GoodM a1) (hg : U G) :
    Calls Try.prog 11 #[.slice A0 l0.length c0, .int .u64 a1] w fun e w' => ∃ g : Nat, e = .returned (.tuple #[.pointer (some ⟨g, 0, none⟩), .int .i64 0]) ∧ Kd.R kFld 67 w' w.heap.size (fun _ => True) (.slice (some ⟨g, 0, none⟩) 1 1) [⟨a1, G, Fs⟩] ∧ Below w.heap.size w w' := by
  have HR := Aside0.mk hr0
  have HC := Aside0.mk hc0
  have H1 := Aside0.mk h1
  have H2 := Aside0.mk h2
  have HM := Aside0.mk hm
  have HG := Aside0.mk hg
  clear hr0 hc0 h1 h2 hm hg
  go_enter Try.func11, Try.ntmps11
  go_wp2_with (first
    | (go_at_call 22; (with_reducible refine (proof_Check.calls k A0 c0 l0 c1 0 _ HR.out HC.out H1.out).mono ?_); rintro e w1 ⟨rfl, hb⟩; have HB1 := Aside0.mk hb; clear hb)
    | (go_at_call 23; (with_reducible refine (proof_Claim.calls k A0 c0 l0 a1 a1 G Fs true _ (Kd.C_below HR.out HB1.out) HC.out H2.out).mono ?_); rintro e w2 ⟨v2, rfl, ho, hb⟩; obtain ⟨A2, c2, rfl⟩ := Kd.R_slice ho; (have HO2 : Aside0 (Kd.R k75 75 w2 w.heap.size (fun _ => True) (.slice A2 Fs.length c2) Fs) := ⟨Kd.R_lower ho HB1.out.size⟩); (have HB2 : Aside0 (Below w.heap.size w w2) := ⟨below_step HB1.out hb⟩); clear hb ho)
    | (go_at_call 24; (with_reducible refine (New_fresh HM.out).mono ?_); rintro e w13 ⟨gc, t, rfl, hgc, hblk, ht, hd, hb⟩; have HGC := Aside0.mk hgc; have HBLK := Aside0.mk hblk; have HT := Aside0.mk ht; have HD := Aside0.mk hd; have HB13 := Aside0.mk hb; (have BK13 : Aside0 (w13.heap[w2.heap.size]? = some (.cells #[.int .u64 a1, .int .u64 G, .slice A2 Fs.length c2] 58 (0, 0))) := ⟨blk_below (blk_new w2 _) hb⟩); (have y0 : w13.cell? ⟨w2.heap.size, 0, none⟩ = some (.int .u64 a1) := (blk_cell BK13.out 0).trans rfl); (have y1 : w13.cell? ⟨w2.heap.size, 1, none⟩ = some (.int .u64 G) := (blk_cell BK13.out 1).trans rfl); (have y2 : w13.cell? ⟨w2.heap.size, 2, none⟩ = some (.slice A2 Fs.length c2) := (blk_cell BK13.out 2).trans rfl); clear hgc hblk ht hd hb))
  go_ret2
  have hs1 : w.heap.size ≤ w2.heap.size := HB2.out.size
  have hs3 : (w2.alloc (.cells #[.int .u64 a1, .int .u64 G, .slice A2 Fs.length c2] 58 (0, 0))).heap.size ≤ w13.heap.size := HB13.out.size
  have hs2 : (w2.alloc (.cells #[.int .u64 a1, .int .u64 G, .slice A2 Fs.length c2] 58 (0, 0))).heap.size = w2.heap.size + 1 := Array.size_push _
  have hgc : gc < w13.heap.size := blk_lt HBLK.out
  have hge := HGC.out
  have hB : Below w.heap.size w w13 := below_step (below_alloc HB2.out _) HB13.out
  refine ⟨w13.heap.size, by first | rfl | (simp; done), ?_, below_alloc hB _⟩
  refine fld_own (F := ⟨a1, G, Fs⟩) (gc := gc) (t := t) (v := .slice A2 Fs.length c2) trivial (by omega) (blk_new _ _) trivial (by omega) (by omega) (blk_below HBLK.out (below_alloc (Below.refl _ _) _)) HM.out HT.out HD.out HG.out ?_
  have h1 := Kd.R_below (Kd.R_alloc HO2.out _) HB13.out
  exact Kd.R_alloc (Kd.R_mono (Kd.R_bound h1) (fun k hk => ⟨trivial, by have := hk.2.2.1; omega⟩)) _
end
theorem field_New.calls (k : Nat) (A0 : Option Addr) (c0 : Nat) (l0 : List S58) (a1 : Int) (r1 : List Fld) (r2 : Int) (w : World) (hr0 : Kd.C k58 w A0 l0.length l0) (hc0 : l0.length ≤ c0) (h : field_New.f k l0 a1 = some (r1, r2)) :
    Calls Try.prog 11 #[.slice A0 l0.length c0, .int .u64 a1] w fun e w' => ∃ v0_ : Value, e = .returned (.tuple #[toPtr v0_, .int .i64 r2]) ∧ Kd.R kFld 67 w' w.heap.size (fun _ => True) v0_ r1 ∧ Below w.heap.size w w' := by
  unfold field_New.f at h
  obtain ⟨⟨c1, c2⟩, h1, h⟩ := Option.bind_eq_some_iff.1 h
  simp only at h
  split at h
  case isFalse hn =>
    obtain ⟨rfl, rfl⟩ := Prod.mk.inj (Option.some.inj h)
    refine (New_uncheck hr0 hc0 h1 hn).mono ?_
    rintro e w' ⟨rfl, hb⟩
    exact ⟨.slice none 0 0, rfl, Kd.R_nil _ _ _ _ _, hb⟩
  case isTrue hz =>
    subst hz
    obtain ⟨⟨P, G, Fs, b⟩, h2, h⟩ := Option.bind_eq_some_iff.1 h
    simp only at h
    cases b with
    | false =>
      rw [if_neg Bool.false_ne_true] at h
      obtain ⟨rfl, rfl⟩ := Prod.mk.inj (Option.some.inj h)
      refine (New_unclaimed hr0 hc0 h1 h2).mono ?_
      rintro e w' ⟨rfl, hb⟩
      exact ⟨.slice none 0 0, rfl, Kd.R_nil _ _ _ _ _, hb⟩
    | true =>
      rw [if_pos rfl] at h
      split at h
      case isFalse => cases h
      rename_i hg
      obtain ⟨rfl, rfl⟩ := Prod.mk.inj (Option.some.inj h)
      obtain ⟨rfl, hm, hu⟩ := hg
      refine (New_made hr0 hc0 h1 h2 hm hu).mono ?_
      rintro e w' ⟨g, rfl, ho, hb⟩
      exact ⟨_, rfl, ho, hb⟩
end Go.Proofs.Ytndkmnjbjlfeaaa.F06
end
section

end
section
namespace Go.Proofs.Ytndkmnjbjlfeaaa.XK
open Go.RowKit Go.Proofs.Ytndkmnjbjlfeaaa.Given Go.Proofs.Ytndkmnjbjlfeaaa.Row05 Go.Proofs.Ytndkmnjbjlfeaaa.XS Go.Proofs.Ytndkmnjbjlfeaaa.XT Go.Proofs.Ytndkmnjbjlfeaaa.XR Go.Proofs.Ytndkmnjbjlfeaaa.F06 Go.Proofs.YtndkmnjbjlfeaaaW.PrintWords Go.Proofs.YtndkmnjbjlfeaaaW.PrintLast Go.Proofs.YtndkmnjbjlfeaaaW.PrintMore
attribute [local go_sem] max2_int min2_int max_two min_two max_three min_three max_four min_four   -- for this text's walks alone
set_option linter.unusedVariables false
set_option linter.unusedSimpArgs false
noncomputable def field_Small.f (k : Nat) (a0 : Int) : Option ((List (Fld)) × Int) := (sieve_Row.f k a0).bind fun bt101 => (if bt101.2 = 0 then ((field_New.f k bt101.1 a0).bind fun bt105 => (some (bt105.1, bt105.2))) else (some (([] : List (Fld)), bt101.2)))
theorem field_Small.mono : ∀ a0 k, LeO (field_Small.f k a0) (field_Small.f (k + 1) a0) := by
 intro a0 k
 unfold field_Small.f
 repeat' first
   | (with_reducible exact field_New.mono _ _ _)
   | (with_reducible exact sieve_Row.mono _ _)
   | (with_reducible exact LeO.refl _)
   | (with_reducible exact LeO.none _)
   | (with_reducible refine LeO.ite ?_ ?_)
   | (with_reducible refine LeO.bind ?_ (fun _ => ?_))
   | exact field_New.mono _ _ _
   | exact sieve_Row.mono _ _
   | exact LeO.none _
   | refine LeO.ite ?_ ?_
   | refine LeO.bind ?_ (fun _ => ?_)
set_option maxHeartbeats 8000000 in
set_option maxRecDepth 100000 in
theorem field_Small.calls (k : Nat) (a0 : Int) (r1 : List (Fld)) (r2 : Int) (w : World) (h : field_Small.f k a0 = some (r1, r2)) :
  Calls Try.prog 7 #[.int .u64 a0] w fun e w' => ∃ v0_ : Value, e = .returned (.tuple #[toPtr v0_, .int .i64 r2]) ∧ Kd.R kFld 67 w' w.heap.size (fun _ => True) v0_ r1 ∧ Below w.heap.size w w' := by
 have HB := Aside0.mk (Below.refl w.heap.size w)
 have H : ((sieve_Row.f k a0).bind fun bt101 => (if bt101.2 = 0 then ((field_New.f k bt101.1 a0).bind fun bt105 => (some (bt105.1, bt105.2))) else (some (([] : List (Fld)), bt101.2)))) = some (r1, r2) := h
 clear h
 replace H := Option.bind_eq_some_iff.mp H
 obtain ⟨⟨t101, t102⟩, A20, H⟩ := H
 replace H : (if t102 = 0 then ((field_New.f k t101 a0).bind fun bt105 => (some (bt105.1, bt105.2))) else (some (([] : List (Fld)), t102))) = some (r1, r2) := H
 have A2 := Aside0.mk A20
 clear A20
 by_cases c3 : t102 = 0
 ·rw [if_pos c3] at H
  have c3b0 : (t102 == 0) = true := beq_iff_eq.mpr c3
  have c3b1 : (t102 != 0) = false := bne_eq_false_iff_eq.mpr c3
  clear c3
  replace H := Option.bind_eq_some_iff.mp H
  obtain ⟨⟨t105, t106⟩, A40, H⟩ := H
  replace H : (some (t105, t106)) = some (r1, r2) := H
  have A4 := Aside0.mk A40
  clear A40
  simp only [Option.some.injEq, Prod.mk.injEq] at H
  obtain ⟨rfl, rfl⟩ := H
  go_enter Try.func7, Try.ntmps7
  go_wp2_with (first | ((with_reducible refine gate_callee (f := 10) rfl ?_); refine goesL_ (some 8) rfl rfl Try.func10 (by kernel_rfl) rfl #[.int .u64 a0] rfl (by (try simp only [List.map_toArray, List.map_cons, List.map_nil]); first | done | rfl | (simp only [List.length_drop, List.length_take]; rfl)) ?_; (with_reducible refine (sieve_Row.calls k a0 t101 t102 _ A2.out).mono ?_); rintro e w5 ⟨v103, rfl, ho0, hb⟩; refine ⟨_, rfl, ?_⟩; have n0_ := Aside0.mk (Kd.S_lower ho0 (below_size (by repeat (first | (with_reducible first | exact HB.out | apply below_alloc | apply pw_below_drewN | apply below_drew1) | exact HB.out)))); have n1_ := Aside0.mk (below_step (by repeat (first | (with_reducible first | exact HB.out | apply below_alloc | apply pw_below_drewN | apply below_drew1) | exact HB.out)) hb); clear HB; have HO104 := n0_; have HB := n1_; clear n0_ n1_; (try clear hb); (try clear hb2); (try clear hk); (try clear hi); (try clear ho0); obtain ⟨Ao6, co6, eo6⟩ := Kd.S_slice HO104.out; subst eo6) | ((with_reducible refine gate_callee (f := 11) rfl ?_); refine goesL_ (some 16) rfl rfl Try.func11 (by kernel_rfl) rfl #[.slice Ao6 t101.length co6, .int .u64 a0] rfl (by (try simp only [List.map_toArray, List.map_cons, List.map_nil]); first | done | rfl | (simp only [List.length_drop, List.length_take]; rfl)) ?_; (with_reducible refine (field_New.calls k _ _ t101 a0 t105 t106 _ ?side1 ?side2 A4.out).mono ?_); (case side1 => repeat (first | exact (Kd.S_reads' HO104.out).2.2 | (with_reducible refine Kd.C_alloc ?_ _) | (with_reducible refine Kd.C_drewN ?_ _) | (with_reducible refine Kd.C_drew ?_))); (case side2 => exact (Kd.S_reads' HO104.out).2.1); rintro e w7 ⟨v107, rfl, ho0, hb⟩; refine ⟨_, rfl, ?_⟩; have n0_ := Aside0.mk (Kd.S_below (by (with_reducible repeat (first | apply Kd.S_alloc | apply Kd.S_drewN | apply Kd.S_drew)); exact HO104.out) hb); have n1_ := Aside0.mk (Kd.R_lower ho0 (below_size (by repeat (first | (with_reducible first | exact HB.out | apply below_alloc | apply pw_below_drewN | apply below_drew1) | exact HB.out)))); have n2_ := Aside0.mk (below_step (by repeat (first | (with_reducible first | exact HB.out | apply below_alloc | apply pw_below_drewN | apply below_drew1) | exact HB.out)) hb); clear HO104; clear HB; have HO104 := n0_; have HO108 := n1_; have HB := n2_; clear n0_ n1_ n2_; (try clear hb); (try clear hb2); (try clear hk); (try clear hi); (try clear ho0)))
  go_ret2
  exact ⟨_, by first | rfl | (simp [errW_none, errW_some] <;> rfl) | (simp [*, errW_none, errW_some] <;> rfl), by (with_reducible repeat (first | apply Kd.R_alloc | apply Kd.R_drewN | apply Kd.R_drew)); exact HO108.out, by repeat (first | (with_reducible first | exact HB.out | apply below_alloc | apply pw_below_drewN | apply below_drew1) | exact HB.out)⟩
 ·rw [if_neg c3] at H
  have c3b0 : (t102 == 0) = false := beq_eq_false_iff_ne.mpr c3
  have c3b1 : (t102 != 0) = true := bne_iff_ne.mpr c3
  simp only [Option.some.injEq, Prod.mk.injEq] at H
  obtain ⟨rfl, rfl⟩ := H
  go_enter Try.func7, Try.ntmps7
  go_wp2_with (first | ((with_reducible refine gate_callee (f := 10) rfl ?_); refine goesL_ (some 8) rfl rfl Try.func10 (by kernel_rfl) rfl #[.int .u64 a0] rfl (by (try simp only [List.map_toArray, List.map_cons, List.map_nil]); first | done | rfl | (simp only [List.length_drop, List.length_take]; rfl)) ?_; (with_reducible refine (sieve_Row.calls k a0 t101 t102 _ A2.out).mono ?_); rintro e w8 ⟨v103, rfl, ho0, hb⟩; refine ⟨_, rfl, ?_⟩; have n0_ := Aside0.mk (Kd.S_lower ho0 (below_size (by repeat (first | (with_reducible first | exact HB.out | apply below_alloc | apply pw_below_drewN | apply below_drew1) | exact HB.out)))); have n1_ := Aside0.mk (below_step (by repeat (first | (with_reducible first | exact HB.out | apply below_alloc | apply pw_below_drewN | apply below_drew1) | exact HB.out)) hb); clear HB; have HO104 := n0_; have HB := n1_; clear n0_ n1_; (try clear hb); (try clear hb2); (try clear hk); (try clear hi); (try clear ho0)))
  go_ret2
  exact ⟨(.slice none 0 0), by first | rfl | (simp [errW_none, errW_some] <;> rfl) | (simp [*, errW_none, errW_some] <;> rfl), by first | exact Kd.R_nil _ _ _ _ _ | exact Kd.N_nil _ _ _ _ _ | exact Kd.V_nil _ _ _ _ _ | exact Kd.Q_nil _ _ _ _ _ | exact Kd.S_nil _ _ _ _ _, by repeat (first | (with_reducible first | exact HB.out | apply below_alloc | apply pw_below_drewN | apply below_drew1) | exact HB.out)⟩
end Go.Proofs.Ytndkmnjbjlfeaaa.XK
end
