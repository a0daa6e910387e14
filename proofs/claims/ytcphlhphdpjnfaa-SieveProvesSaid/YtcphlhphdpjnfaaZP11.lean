/- Parts of this claim's texts, packed by wip/tools/prune.py: what the proof does not reach is left out. -/
import Derived.Test.YtcphlhphdpjnfaaZP10
import Derived.Maps.OwnSet
section
namespace Go.Proofs.Ytcphlhphdpjnfaa.Row05
open Go Go.RowKit Go.Maps Go.Proofs.YtcphlhphdpjnfaaW.PrintWords Go.Proofs.YtcphlhphdpjnfaaW.PrintLast Go.Proofs.YtcphlhphdpjnfaaW.PrintMore Go.Proofs.Ytcphlhphdpjnfaa.Given Go.Proofs.Ytcphlhphdpjnfaa.M Go.Proofs.Ytcphlhphdpjnfaa.XS Go.Proofs.Ytcphlhphdpjnfaa.XT Go.Proofs.Ytcphlhphdpjnfaa.Given05
def Rv (v : Value) : Option (DataW Value × List MemPlace) := some (.held v, [])
abbrev entV (e : S45) (v : Value) : Value := .agg #[.int .u64 e.f0, .int .u64 e.f1, v]
abbrev zE : Value := .agg #[.int .u64 0, .int .u64 0, .slice none 0 0]
theorem zE_run (w : World) : (zeroValue 45).run Try.prog w = .ok zE w := by
  kernel_rfl
structure MapR (w : World) (base b : Nat) (f : Nat → Nat) (all : List S45) : Prop where
  own : ∃ D n, w.ownsMap Try.prog 26 Rv b n D ∧ n ≤ all.length ∧ (∀ q, Maps.has D (.int .u64 q) = all.any (fun e => e.f0 == q)) ∧
    ∀ e ∈ all, ∃ v, (∀ zd, D.atKey (.int .u64 e.f0) zd = .held (entV e v)) ∧ Kd.R k33 33 w base (fun k => f k = e.f0.toNat ∧ k ≠ b) v e.f2
theorem MapR.lt {w : World} {base b : Nat} {f : Nat → Nat} {all : List S45} (h : MapR w base b f all) : b < w.heap.size := by
  obtain ⟨D, n, ho, _⟩ := h.own
  exact ho.lt
theorem MapR.made (w : World) (base : Nat) (f : Nat → Nat) : MapR (w.alloc (.map #[] 0)) base w.heap.size f [] :=
  ⟨⟨_, 0, World.ownsMap_made w _ _ Rv, Nat.le_refl _, fun _ => rfl, fun e he => by cases he⟩⟩
theorem MapR.below {w w' : World} {base b : Nat} {f : Nat → Nat} {all : List S45} (h : MapR w base b f all) (hb : Below w.heap.size w w') : MapR w' base b f all := by
  obtain ⟨D, n, ho, hn, hh, he⟩ := h.own
  have hlt := ho.lt
  obtain ⟨es, clock, hbk, F, hs, hD⟩ := ho
  exact ⟨⟨D, n, ⟨es, clock, (hb.block b hlt).trans hbk, F, hs, hD⟩, hn, hh, fun e hm => by
    obtain ⟨v, h1, h2⟩ := he e hm
    exact ⟨v, h1, Kd.R_below h2 hb⟩⟩⟩
theorem MapR.retag {w : World} {base b : Nat} {f f' : Nat → Nat} {all : List S45} (h : MapR w base b f all) (hf : ∀ k, k < w.heap.size → f' k = f k) : MapR w base b f' all := by
  obtain ⟨D, n, ho, hn, hh, he⟩ := h.own
  exact ⟨⟨D, n, ho, hn, hh, fun e hm => by
    obtain ⟨v, h1, h2⟩ := he e hm
    exact ⟨v, h1, Kd.R_mono (Kd.R_bound h2) fun k hk => ⟨by rw [hf k hk.2.2.1]; exact hk.1.1, hk.1.2⟩⟩⟩⟩
theorem MapR.miss {w : World} {base b : Nat} {f : Nat → Nat} {all : List S45} {p : Int} (h : MapR w base b f all) (hp : (Lit.int .u64 p).wf = true) (hn : all.any (fun e => e.f0 == p) = false) :
    (Instr.lookup 56 (.map (some b)) (.int .u64 p) true).run Try.prog w = .ok (.tuple #[zE, .bool false]) w := by
  obtain ⟨D, n, ho, _, hh, _⟩ := h.own
  have hkey := keyOf_int_mk Try.underlying26 hp
  have h1 := hh p
  rw [hn] at h1
  obtain ⟨es, clock, hb, F, _, rfl⟩ := ho
  rcases Maps.fit_look true (int_keyed Try.underlying26) Try.underlying56 (zE_run w) hb F hkey with ⟨hrun, _, _⟩ | ⟨e0, y, _, _, _, _, hat, _⟩
  · exact hrun
  · rw [Maps.has_true_of_atKey hat] at h1; cases h1
theorem MapR.hit {w : World} {base b : Nat} {f : Nat → Nat} {all : List S45} {e : S45} (h : MapR w base b f all) (hp : (Lit.int .u64 e.f0).wf = true) (he : e ∈ all) :
    ∃ v, (Instr.lookup 56 (.map (some b)) (.int .u64 e.f0) true).run Try.prog w = .ok (.tuple #[entV e v, .bool true]) w ∧ (Instr.lookup 56 (.map (some b)) (.int .u64 e.f0) false).run Try.prog w = .ok (entV e v) w ∧
      Kd.R k33 33 w base (fun k => f k = e.f0.toNat ∧ k ≠ b) v e.f2 := by
  obtain ⟨D, n, ho, _, hh, hE⟩ := h.own
  have hkey := keyOf_int_mk Try.underlying26 hp
  obtain ⟨v, hat, hr⟩ := hE e he
  have hhas := Maps.has_true_of_atKey hat
  obtain ⟨v1, p1, hrun1, hv1⟩ := ho.look_ok (int_keyed Try.underlying26) Try.underlying56 (zE_run w) (zd := .held zE) (zp := []) rfl hkey
  obtain ⟨v2, p2, hrun2, hv2⟩ := ho.lookup (int_keyed Try.underlying26) Try.underlying56 (zE_run w) (zd := .held zE) (zp := []) rfl hkey
  rw [hat] at hv1 hv2
  rw [hhas] at hrun1
  have e1 : v1 = entV e v := DataW.held.inj (Prod.mk.inj (Option.some.inj hv1)).1
  have e2 : v2 = entV e v := DataW.held.inj (Prod.mk.inj (Option.some.inj hv2)).1
  rw [e1] at hrun1
  rw [e2] at hrun2
  exact ⟨v, hrun1, hrun2, hr⟩
theorem MapR.put {w w' : World} {base b : Nat} {f : Nat → Nat} {all : List S45} {D : DataW Value} {n : Nat} {e : S45} {v : Value} (hn : n ≤ all.length) (hh : ∀ q, Maps.has D (.int .u64 q) = all.any (fun e => e.f0 == q)) (hM : Maps.IsMap D)
    (hE : ∀ e ∈ all, ∃ v, (∀ zd, D.atKey (.int .u64 e.f0) zd = .held (entV e v)) ∧ Kd.R k33 33 w base (fun k => f k = e.f0.toNat ∧ k ≠ b) v e.f2) (hnew : all.any (fun x => x.f0 == e.f0) = false)
    (hr : Kd.R k33 33 w base (fun k => f k = e.f0.toNat ∧ k ≠ b) v e.f2)
    (ho : w'.ownsMap Try.prog 26 Rv b (n + 1) (D.put (.int .u64 e.f0) (.held (entV e v)))) (hg : w.grownBy w' (some b)) : MapR w' base b f (all ++ [e]) := by
  have hkl : ∀ q : Int, WideAt.IsKeyLit (.int .u64 q) := fun q => trivial
  have hne : ∀ x ∈ all, x.f0 ≠ e.f0 := fun x hx c => by
    rw [List.any_eq_false] at hnew
    exact hnew x hx (by rw [c]; exact beq_self_eq_true _)
  have hne' : ∀ {q q' : Int}, q ≠ q' → (Lit.int .u64 q) ≠ (Lit.int .u64 q') := fun h c => h (by injection c)
  refine ⟨⟨_, n + 1, ho, by rw [List.length_append]; exact Nat.add_le_add_right hn 1, fun q => ?_, fun x hx => ?_⟩⟩
  · rw [List.any_append]
    by_cases c : q = e.f0
    · subst c
      rw [Maps.has_put_same hM (hkl _)]
      simp
    · rw [Maps.has_put_other (hne' c), hh]
      have : (e.f0 == q) = false := beq_eq_false_iff_ne.mpr fun h => c h.symm
      simp [this]
  · rcases List.mem_append.1 hx with hx | hx
    · obtain ⟨u, h1, h2⟩ := hE x hx
      exact ⟨u, fun zd => by rw [Maps.atKey_put_other (hne' (hne x hx))]; exact h1 zd, Kd.R_grown h2 hg fun k hk c => hk.2 (by injection c)⟩
    · have : x = e := by simpa using hx
      subst this
      exact ⟨v, fun zd => Maps.atKey_put_same hM (hkl _) _ zd, Kd.R_grown hr hg fun k hk c => hk.2 (by injection c)⟩
end Go.Proofs.Ytcphlhphdpjnfaa.Row05
end
section
namespace Go.Proofs.Ytcphlhphdpjnfaa.Row05
open Go Go.RowKit Go.Maps Go.Proofs.YtcphlhphdpjnfaaW.PrintWords Go.Proofs.YtcphlhphdpjnfaaW.PrintLast Go.Proofs.YtcphlhphdpjnfaaW.PrintMore Go.Proofs.Ytcphlhphdpjnfaa.Given Go.Proofs.Ytcphlhphdpjnfaa.M Go.Proofs.Ytcphlhphdpjnfaa.XS Go.Proofs.Ytcphlhphdpjnfaa.XT Go.Proofs.Ytcphlhphdpjnfaa.Given05
instance (p : Int) : Decidable (U p) := by unfold U; infer_instance
mutual
def gatherF : Nat → List S45 → Int → Option (List S45)
  | 0, _, _ => none
  | k + 1, all, p => if U p then (if all.any (fun e => e.f0 == p) = true then some all else if p = 2 then some all else
      (sieve_Factor.f k (IntKind.u64.wrap (p - 1))).bind fun l => (sieve_Generator.f k p).bind fun g => if all.length < 1000 then gatherL k (all ++ [⟨p, g, l⟩]) l else none) else none
def gatherL : Nat → List S45 → List S33 → Option (List S45)
  | 0, _, _ => none
  | _ + 1, all, [] => some all
  | k + 1, all, x :: t => (gatherF k all x.f0).bind fun a => gatherL k a t
end
theorem mem_of_any {all : List S45} {p : Int} (h : all.any (fun e => e.f0 == p) = true) : ∃ e ∈ all, e.f0 = p := by
  rw [List.any_eq_true] at h
  obtain ⟨e, he, hp⟩ := h
  exact ⟨e, he, by simpa using hp⟩
theorem wf_of_U {p : Int} (h : U p) : (Lit.int .u64 p).wf = true := by
  unfold U at h
  simp [Lit.wf, IntKind.min, IntKind.max, IntKind.bits, IntKind.signed]
  omega
theorem put_step {w w3 w4 : World} {base b : Nat} {f : Nat → Nat} {all : List S45} {e : S45} {v o : Value} {t : TypeId} (hbase : base ≤ w.heap.size) (hm : MapR w base b f all) (hnew : all.any (fun x => x.f0 == e.f0) = false)
    (hb3 : Below (w.alloc (.cells #[.int .u64 0, .int .u64 0, o] t)).heap.size (w.alloc (.cells #[.int .u64 0, .int .u64 0, o] t)) w3) (hv : Kd.R k33 33 w3 (w.alloc (.cells #[.int .u64 0, .int .u64 0, o] t)).heap.size (fun _ => True) v e.f2) (hb4 : Below w3.heap.size w3 w4) :
    ∃ f' D n, MapR w4 base b f' all ∧ w4.ownsMap Try.prog 26 Rv b n D ∧ n ≤ all.length ∧ (∀ w5, w5.ownsMap Try.prog 26 Rv b (n + 1) (D.put (.int .u64 e.f0) (.held (entV e v))) → w4.grownBy w5 (some b) →
      MapR w5 base b f' (all ++ [e]) ∧ Kd.R k33 33 w5 base (fun k => k ≠ b) v e.f2 ∧ w.grownBy w5 (some b)) := by
  have hs : (w.alloc (.cells #[.int .u64 0, .int .u64 0, o] t)).heap.size = w.heap.size + 1 := by simp
  have hblt := hm.lt
  have hb : Below w.heap.size w w4 := below_step (below_step (below_alloc (Below.refl _ _) _) hb3) hb4
  have hm4 : MapR w4 base b (fun k => if w.heap.size + 1 ≤ k then e.f0.toNat else f k) all := (hm.retag fun k hk => if_neg (by omega)).below hb
  have hv4 : Kd.R k33 33 w4 base (fun k => (if w.heap.size + 1 ≤ k then e.f0.toNat else f k) = e.f0.toNat ∧ k ≠ b) v e.f2 := by
    refine Kd.R_lower (Kd.R_mono (Kd.R_bound (Kd.R_below hv hb4)) fun k hk => ?_) (base := (w.alloc (.cells #[.int .u64 0, .int .u64 0, o] t)).heap.size) (by omega)
    have := hk.2.1
    rw [hs] at this
    exact ⟨if_pos this, by omega⟩
  obtain ⟨D, n, ho, hn, hh, hE⟩ := hm4.own
  refine ⟨_, D, n, hm4, ho, hn, fun w5 ho5 hg5 => ⟨MapR.put hn hh ho.isMap hE hnew hv4 ho5 hg5, Kd.R_mono (Kd.R_grown hv4 hg5 fun k hk c => hk.2 (by injection c)) fun k hk => hk.2, ?_⟩⟩
  exact ⟨hg5.os.trans hb.os, hg5.tape.trans hb.tape, hg5.output.trans hb.output, Nat.le_trans hb.size hg5.size, fun k hk hne => (hg5.block k (Nat.lt_of_lt_of_le hk hb.size) hne).trans (hb.block k hk)⟩
theorem grown_trans {w w1 w2 : World} {row : Option Nat} (h : w.grownBy w1 row) (h' : w1.grownBy w2 row) : w.grownBy w2 row :=
  ⟨h'.os.trans h.os, h'.tape.trans h.tape, h'.output.trans h.output, Nat.le_trans h.size h'.size, fun k hk hne => (h'.block k (Nat.lt_of_lt_of_le hk h.size) hne).trans (h.block k hk hne)⟩
set_option maxRecDepth 100000 in
set_option maxHeartbeats 4000000 in
theorem gather_calls (K : Nat) : ∀ (all r : List S45) (p : Int) (w : World) (base b : Nat) (f : Nat → Nat), base ≤ w.heap.size → gatherF K all p = some r → MapR w base b f all →
    Calls Try.prog 28 #[.map (some b), .int .u64 p] w fun e w' => e = .returned (.tuple #[]) ∧ (∃ f', MapR w' base b f' r) ∧ w.grownBy w' (some b) := by
  induction K using Nat.strongRecOn with
  | ind K ih =>
  intro all r p w base b f hbase h hm
  cases K with
  | zero => simp [gatherF] at h
  | succ K =>
  unfold gatherF at h
  split at h
  case isFalse => cases h
  rename_i hU
  have hwf := wf_of_U hU
  have HM := Aside0.mk hm
  have HB := Aside0.mk hbase
  split at h
  · -- it is there
    rename_i hany
    obtain rfl := Option.some.inj h
    obtain ⟨e, he, rfl⟩ := mem_of_any hany
    obtain ⟨v, hrun, _, hr⟩ := hm.hit hwf he
    obtain ⟨A, c, rfl⟩ := Kd.R_slice hr
    clear hany h hm hr ih
    go_enter Try.func28, Try.ntmps28
    go_wp2
    refine bodyPost_ret (results_none rfl _ _ _) rfl ?_
    exact ⟨rfl, ⟨f, HM.out.below (by repeat (first | exact Below.refl _ _ | apply below_alloc))⟩, World.grownBy_alloc _ _ _⟩
  · rename_i hany
    have hany' : all.any (fun e => e.f0 == p) = false := by simpa using hany
    have hrun := hm.miss hwf hany'
    split at h
    · rename_i h2
      subst h2
      obtain rfl := Option.some.inj h
      clear hany h hm ih
      go_enter Try.func28, Try.ntmps28
      go_wp2
      refine bodyPost_ret (results_none rfl _ _ _) rfl ?_
      exact ⟨rfl, ⟨f, HM.out.below (by repeat (first | exact Below.refl _ _ | apply below_alloc))⟩, World.grownBy_alloc _ _ _⟩
    · rename_i h2
      obtain ⟨l, h3, h⟩ := Option.bind_eq_some_iff.1 h
      obtain ⟨g, h4, h⟩ := Option.bind_eq_some_iff.1 h
      split at h
      case isFalse => cases h
      rename_i hlen
      have H3 := Aside0.mk h3
      have H4 := Aside0.mk h4
      have H5 := Aside0.mk h
      have HL := Aside0.mk hlen
      have HN := Aside0.mk hany'
      have HW := Aside0.mk hwf
      have c2 : (p == 2) = false := beq_eq_false_iff_ne.mpr h2
      have IH := Aside0.mk ih
      clear hany h hm h3 h4 ih hlen hany'
      go_enter Try.func28, Try.ntmps28
      go_wp2_with (first
        | (go_at_call 11; (with_reducible refine (sieve_Factor.calls K (IntKind.u64.wrap (p - 1)) l _ H3.out).mono ?_); rintro e w3 ⟨v, rfl, hv, hb3⟩; (obtain ⟨A, c, rfl⟩ := Kd.R_slice hv); have HV := Aside0.mk hv; have HB3 := Aside0.mk hb3; clear hb3 hv)
        | (go_at_call 14; (with_reducible refine (sieve_Generator.calls K p g _ H4.out).mono ?_); rintro e w4 ⟨rfl, hb4⟩; have HB4 := Aside0.mk hb4; clear hb4)
        | (at_mapUpdate; obtain ⟨f', D, n, hm4, ho, hn, hput⟩ := put_step (e := ⟨p, g, l⟩) HB.out HM.out HN.out HB3.out HV.out HB4.out; have HP := Aside0.mk hput; (refine wpList_mapUpdate_own _ rfl _ _ _ 56 rfl 26 45 (int_keyed Try.underlying26) Try.underlying56 Rv b n D rfl ho ?hnmax _ _ (.int .u64 p) rfl rfl (keyOf_int_mk Try.underlying26 HW.out) (.held (entV ⟨p, g, l⟩ (.slice A l.length c))) [] rfl ?_); (case hnmax => have := HL.out; unfold maxLen; omega); intro w5 ho5 hg5; obtain ⟨q1, q2, q3⟩ := HP.out w5 ho5 hg5; have HM5 := Aside0.mk q1; have HR5 := Aside0.mk q2; have HG5 := Aside0.mk q3; clear hput hm4 ho hn ho5 hg5 q1 q2 q3 HP))
      have HLEN : Aside0 (l.length ≤ 9223372036854775807) := ⟨(Kd.R_reads' HV.out).2.2.2.1⟩
      go_loopg [32] K (fun kq v32 wr => ∃ (i : Nat) (a : List S45), v32 = .int .i64 i ∧ i ≤ l.length ∧ Aside0 (gatherL kq a (l.drop i) = some r) ∧ Aside0 (kq ≤ K) ∧ Aside0 (∃ f', MapR wr base b f' a) ∧ Aside0 (Kd.R k33 33 wr base (fun k => k ≠ b) (.slice A l.length c) l) ∧ Aside0 (w.grownBy wr (some b)))
      case atStart => exact ⟨0, _, rfl, Nat.zero_le _, H5, ⟨Nat.le_refl _⟩, ⟨_, HM5.out⟩, HR5, HG5⟩
      case round =>
        obtain ⟨i, a, rfl, hi, HA, HK1, HMr, HRr, HGr⟩ := hrel
        cases gk with
        | zero => exact absurd HA.out (by simp [gatherL])
        | succ k1 =>
          have hlen := HLEN.out
          by_cases hlt : i < l.length
          · have c3b0 : decide ((i : Int) < (l.length : Int)) = true := decide_eq_true (by omega)
            have c3b1 : decide (i < l.length) = true := decide_eq_true hlt
            have p1 : 0 ≤ (i : Int) := by omega
            have q1 : (i : Int) < (l.length : Int) := by omega
            have hd : l.drop i = rd_T33 l (i : Int) :: l.drop (i + 1) := by
              rw [List.drop_eq_getElem_cons hlt]
              unfold rd_T33
              rw [Int.toNat_natCast, List.getD_eq_getElem?_getD, List.getElem?_eq_getElem hlt]; rfl
            have hA := HA.out
            rw [hd] at hA
            unfold gatherL at hA
            obtain ⟨a', hA1, hA2⟩ := Option.bind_eq_some_iff.1 hA
            obtain ⟨ad, rfl, hx0, hx1⟩ := at_T33 (Kd.R_reads' HRr.out).2.2 i (by omega) (by omega)
            simp only [Int.toNat_natCast] at hx0 hx1
            have HA1 := Aside0.mk hA1
            have HA2 := Aside0.mk hA2
            have HLT := Aside0.mk hlt
            obtain ⟨f1, hm1⟩ := HMr.out
            have HM1 := Aside0.mk hm1
            clear hA hA1 hA2 hd hlt hlen hi hm1 HA
            go_wp2_with (first
              | ((with_reducible refine gate_dst (N := 8) rfl ?_); refine box_event ?hg (N := 8) ?hd (cs := #[.int .u64 0, .int .i64 0]) (t := 33) ?hr ?_; (case hd => rfl); (case hg => rfl); (case hr => first | (go_simp; done) | (go_simp; rfl)); intro gb hg w11 hbox hbx2; (have GE : Aside0 (wr.heap.size ≤ gb) := ⟨by rw [hg]; exact Nat.le_refl _⟩); (have HBX := Aside0.mk hbx2); (have z0 : w11.cell? ⟨gb, 0, none⟩ = some (.int .u64 0) := (blk_cell hbox 0).trans rfl); (have z1 : w11.cell? ⟨gb, 1, none⟩ = some (.int .i64 0) := (blk_cell hbox 1).trans rfl); have z2 := blk_frozen hbox 0; have z3 := blk_frozen hbox 1; clear hbox hbx2 hg)
              | (go_at_call 28; (with_reducible refine (IH.out k1 ?hk a a' _ _ base b f1 ?hba HA1.out ?hmr).mono ?_); (case hk => have := HK1.out; omega); (case hmr => exact HM1.out.below (below_set (below_set HBX.out GE.out) GE.out)); (case hba => exact Nat.le_trans HB.out (Nat.le_trans HGr.out.size (below_set (below_set HBX.out GE.out) GE.out).size)); rintro e w6 ⟨rfl, hm6, hg6⟩; have HM6 := Aside0.mk hm6; have HG6 := Aside0.mk hg6; clear hm6 hg6))
            have HBY : Aside0 (wr.grownBy w6 (some b)) := ⟨by
              have hb := below_set (below_set (v := .int .u64 (rd_T33 l (i : Int)).f0) HBX.out GE.out (j := 0)) (v := .int .i64 (rd_T33 l (i : Int)).f1) GE.out (j := 1)
              exact grown_trans ⟨hb.os, hb.tape, hb.output, hb.size, fun k hk _ => hb.block k hk⟩ HG6.out⟩
            go_roundg k1
            case measure => have := HK1.out; omega
            case rel => exact ⟨i + 1, a', by have := HLT.out; have := HLEN.out; exact congrArg (Value.int .i64) ((w64_id ((i : Int) + 1) (by omega) (by omega)).trans rfl), by have := HLT.out; omega, HA2, ⟨by have := HK1.out; omega⟩, HM6, ⟨Kd.R_grown HRr.out HBY.out fun k hk c => hk (by injection c)⟩, ⟨grown_trans HGr.out HBY.out⟩⟩
          · have c3b0 : decide ((i : Int) < (l.length : Int)) = false := decide_eq_false (by omega)
            have c3b1 : decide (i < l.length) = false := decide_eq_false hlt
            have hA := HA.out
            rw [List.drop_eq_nil_iff.2 (by omega)] at hA
            unfold gatherL at hA
            obtain rfl := Option.some.inj hA
            clear hlt hlen hA HA
            go_wp2
            go_end0
            exact ⟨rfl, HMr.out, HGr.out⟩
end Go.Proofs.Ytcphlhphdpjnfaa.Row05
end
section
namespace Go.Proofs.Ytcphlhphdpjnfaa.Row05
open Go Go.RowKit Go.Maps Go.Proofs.YtcphlhphdpjnfaaW.PrintWords Go.Proofs.YtcphlhphdpjnfaaW.PrintLast Go.Proofs.YtcphlhphdpjnfaaW.PrintMore Go.Proofs.Ytcphlhphdpjnfaa.Given Go.Proofs.Ytcphlhphdpjnfaa.M Go.Proofs.Ytcphlhphdpjnfaa.XS Go.Proofs.Ytcphlhphdpjnfaa.XT Go.Proofs.Ytcphlhphdpjnfaa.Given05 Go.Proofs.Ytcphlhphdpjnfaa.KeysU
def look (all : List S45) (q : Int) : S45 := (all.find? (fun e => e.f0 == q)).getD z45
def keysS (all : List S45) : List Int := (all.map fun e => e.f0).mergeSort (fun a b => decide (a ≤ b))
def okRow (all : List S45) : Prop := all.length ≤ 12 ∧ (all.map fun e => e.f0).Nodup ∧ ∀ e ∈ all, U e.f0
instance (all : List S45) : Decidable (okRow all) := by unfold okRow; infer_instance
def sieve_Row.f (k : Nat) (p : Int) : Option (List S45 × Int) := (sieve_odd.f k p).bind fun t => if t = true then ((gatherF k [] p).bind fun all => if okRow all then some ((keysS all).map (look all), 0) else none) else some ([], 1)
theorem keysS_perm (all : List S45) : (keysS all).Perm (all.map fun e => e.f0) := List.mergeSort_perm _ _
theorem keysS_sorted (all : List S45) : (keysS all).Pairwise (· ≤ ·) := by
  have := List.pairwise_mergeSort (le := fun a b : Int => decide (a ≤ b)) (fun a b c h1 h2 => by simp only [decide_eq_true_eq] at *; omega) (fun a b => by simp only [Bool.or_eq_true, decide_eq_true_eq]; omega) (all.map fun e => e.f0)
  exact this.imp fun h => by simpa using h
theorem keys_eq {all : List S45} (hn : (all.map fun e => e.f0).Nodup) {D : DataW Value} (hh : ∀ q, Maps.has D (.int .u64 q) = all.any (fun e => e.f0 == q)) {ss : List Int} (hk : KeysAre D ss) : ss.Perm (all.map fun e => e.f0) := by
  refine (List.perm_ext_iff_of_nodup hk.1 hn).2 fun x => ?_
  rw [hk.2 x, hh, List.any_eq_true, List.mem_map]
  exact ⟨fun ⟨e, h1, h2⟩ => ⟨e, h1, by simpa using h2⟩, fun ⟨e, h1, h2⟩ => ⟨e, h1, by simpa using h2⟩⟩
theorem sorted_eq {L L' : List Int} (h : L.Perm L') (h1 : L.Pairwise (· ≤ ·)) (h2 : L'.Pairwise (· ≤ ·)) : L = L' :=
  List.Perm.eq_of_pairwise (le := fun a b : Int => a ≤ b) (fun _ _ _ _ h1 h2 => Int.le_antisymm h1 h2) h1 h2 h
theorem look_of {all : List S45} {q : Int} (h : q ∈ all.map fun e => e.f0) : look all q ∈ all ∧ (look all q).f0 = q := by
  obtain ⟨e, he, hq⟩ := List.mem_map.1 h
  unfold look
  cases hf : all.find? (fun e => e.f0 == q) with
  | none => exact absurd (List.find?_eq_none.1 hf e he) (by simp [hq])
  | some x => exact ⟨List.mem_of_find?_eq_some hf, by simpa using List.find?_some hf⟩
theorem sorted_all {w3 : World} {base b : Nat} {f : Nat → Nat} {all : List S45} (hm : MapR w3 base b f all) (hok : okRow all) :
    Calls Try.prog 29 #[.func (.func 38) #[] #[.pointer (some ⟨w3.heap.size, 0, none⟩)]] (w3.alloc (.cells #[.map (some b)] 56)) fun e w5 =>
      ∃ A c, e = .returned (.slice A (keysS all).length c) ∧ Kd.R (Kd.int .u64) 26 w5 w3.heap.size (fun _ => True) (.slice A (keysS all).length c) (keysS all) ∧ Below w3.heap.size w3 w5 := by
  obtain ⟨D, n, ho, hn, hh, hE⟩ := hm.own
  have h12 : ∀ ss, KeysAre D ss → ss.length ≤ 12 := fun ss hss => by
    have := (keys_eq hok.2.1 hh hss).length_eq
    rw [List.length_map] at this
    have := hok.1
    omega
  have hN : Maps.size D ≤ 1000 := by have := ho.size_le; have := hok.1; omega
  refine (sorted_calls keys_enter (fun ss => KeysAre D ss) h12 (Maps.size D) hN _ (keys_gives_box b n D w3 ho)).mono ?_
  rintro e w5 ⟨v5, ss, L, rfl, hss, hp, hso, hr5, hb5⟩
  have hL : L = keysS all := sorted_eq (hp.trans ((keys_eq hok.2.1 hh hss).trans (keysS_perm all).symm)) hso (keysS_sorted all)
  subst hL
  obtain ⟨A5, c5, rfl⟩ := Kd.R_slice hr5
  exact ⟨A5, c5, rfl, Kd.R_lower hr5 (by simp), below_step (below_alloc (Below.refl _ _) _) hb5⟩
def okL (L : List Int) (i : Nat) (f : Nat → Nat) (N : Nat) (k : Nat) : Prop := (∃ q ∈ L.take i, f k = q.toNat) ∨ N ≤ k
theorem okL_next {L : List Int} {i : Nat} {f f3 : Nat → Nat} {N b : Nat} (hf : f = fun k => if k < N then f3 k else 18446744073709551616) (hn : L.Nodup) (hU : ∀ q ∈ L, U q) (hi : i < L.length) :
    (∀ k, f k = L[i].toNat ∧ k ≠ b → k < N) ∧ (∀ k, okL L i f N k → okL L (i + 1) f N k ∧ ¬ (f k = L[i].toNat ∧ k ≠ b)) ∧ (∀ k, f k = L[i].toNat ∧ k ≠ b → okL L (i + 1) f N k) := by
  have hm : L[i] ∈ L := List.getElem_mem hi
  have hu := hU _ hm
  have ht : L.take (i + 1) = L.take i ++ [L[i]] := List.take_succ_eq_append_getElem hi
  have h1 : ∀ k, f k = L[i].toNat ∧ k ≠ b → k < N := fun k hk => by
    refine Nat.lt_of_not_le fun c => ?_
    have := hk.1
    rw [hf] at this
    simp only [if_neg (show ¬ k < N by omega)] at this
    unfold U at hu
    omega
  refine ⟨h1, fun k hk => ⟨?_, fun hp => ?_⟩, fun k hk => .inl ⟨L[i], by rw [ht]; exact List.mem_append_right _ (List.mem_singleton.2 rfl), hk.1⟩⟩
  · rcases hk with ⟨q, hq, e⟩ | hk
    · exact .inl ⟨q, by rw [ht]; exact List.mem_append_left _ hq, e⟩
    · exact .inr hk
  · rcases hk with ⟨q, hq, e⟩ | hk
    · have hq' := hU q (List.mem_of_mem_take hq)
      rw [e] at hp
      have e2 : q = L[i] := by have := hp.1; unfold U at *; omega
      have := hn
      rw [← List.take_append_drop (i + 1) L, ht] at this
      have := (List.nodup_append.1 (List.nodup_append.1 this).1).2.2 q hq L[i] (by simp)
      exact this e2
    · have := h1 k hp; omega
theorem sieve_Row.calls_not {k : Nat} {p : Int} {w : World} (h : sieve_odd.f k p = some false) :
    Calls Try.prog 17 #[.int .u64 p] w fun e w' => ∃ v0_ : Value, e = .returned (.tuple #[v0_, .int .i64 1]) ∧ Kd.S k45 45 w' w.heap.size (fun _ => True) v0_ [] ∧ Below w.heap.size w w' := by
  have H1 := Aside0.mk h
  clear h
  go_enter Try.func17, Try.ntmps17
  go_wp2_with (go_at_call 22; (with_reducible refine (sieve_odd.calls k p false _ H1.out).mono ?_); rintro e w2 ⟨rfl, hb2⟩; have HB2 := Aside0.mk hb2; clear hb2)
  go_ret2
  exact ⟨_, rfl, Kd.S_nil _ _ _ _ _, HB2.out⟩
set_option maxRecDepth 100000 in
set_option maxHeartbeats 4000000 in
theorem sieve_Row.calls_odd {k : Nat} {p : Int} {all : List S45} {w : World} (h : sieve_odd.f k p = some true) (h2 : gatherF k [] p = some all) (hok : okRow all) :
    Calls Try.prog 17 #[.int .u64 p] w fun e w' => ∃ v0_ : Value, e = .returned (.tuple #[v0_, .int .i64 0]) ∧ Kd.S k45 45 w' w.heap.size (fun _ => True) v0_ ((keysS all).map (look all)) ∧ Below w.heap.size w w' := by
  have H1 := Aside0.mk h
  have H2 := Aside0.mk h2
  have HO := Aside0.mk hok
  have hmm := @run_makeMap Try.prog
  clear h h2 hok
  go_enter Try.func17, Try.ntmps17
  go_wp2_with (first
    | (go_at_call 22; (with_reducible refine (sieve_odd.calls k p true _ H1.out).mono ?_); rintro e w2 ⟨rfl, hb2⟩; have HB2 := Aside0.mk hb2; clear hb2)
    | (go_at_call 28; (with_reducible refine (gather_calls k [] all p _ w.heap.size w2.heap.size (fun _ => 0) ?hba H2.out ?hmr).mono ?_); (case hba => exact Nat.le_trans HB2.out.size (by simp)); (case hmr => exact MapR.made w2 _ _); rintro e w3 ⟨rfl, ⟨f3, hm3⟩, hg3⟩; have HM3 := Aside0.mk hm3; (have HB3 : Aside0 (Below w.heap.size w w3) := ⟨(below_alloc HB2.out _).grown hg3 (Nat.le_trans HB2.out.size (by simp)) (fun q e => by cases e; exact HB2.out.size)⟩); clear hm3 hg3 hmm)
    | (go_at_call 30; (with_reducible refine (keys_calls _ _).mono ?_); rintro e w4 ⟨rfl, rfl⟩)
    | (go_at_call 29; (with_reducible refine (sorted_all HM3.out HO.out).mono ?_); rintro e w5 ⟨A5, c5, rfl, hr5, hb5⟩; have HR5 := Aside0.mk hr5; have HB5 := Aside0.mk hb5; clear hr5 hb5))
  have HN : Aside0 ((keysS all).Nodup) := ⟨(keysS_perm all).nodup_iff.2 HO.out.2.1⟩
  have HU : Aside0 (∀ q ∈ keysS all, U q) := ⟨fun q hq => by
    obtain ⟨e, he, h⟩ := List.mem_map.1 ((keysS_perm all).mem_iff.1 hq)
    rw [← h]; exact HO.out.2.2 e he⟩
  have HK : Aside0 (∀ q ∈ keysS all, look all q ∈ all ∧ (look all q).f0 = q) := ⟨fun q hq => look_of ((keysS_perm all).mem_iff.1 hq)⟩
  have HL12 : Aside0 ((keysS all).length ≤ 12) := ⟨by have := (keysS_perm all).length_eq; rw [List.length_map] at this; have := HO.out.1; omega⟩
  obtain ⟨L, hL⟩ : ∃ L, keysS all = L := ⟨_, rfl⟩
  rw [hL] at HN HU HK HL12 HR5 ⊢
  obtain ⟨f1, hf1⟩ : ∃ f1 : Nat → Nat, f1 = fun k => if k < w5.heap.size then f3 k else 18446744073709551616 := ⟨_, rfl⟩
  have HF := Aside0.mk hf1
  have HM5 : Aside0 (MapR w5 w.heap.size w2.heap.size f1 all) := ⟨(HM3.out.below HB5.out).retag fun k hk => by rw [hf1]; exact if_pos hk⟩
  have HBW5 : Aside0 (Below w.heap.size w w5) := ⟨below_step HB3.out HB5.out⟩
  have HLE := Aside0.mk hL
  clear hL hf1 HM3 HB3 HB5
  go_loopw [5, 19] (fun v5 v19 wr => ∃ i : Nat, v19 = .int .i64 i ∧ i ≤ L.length ∧ Aside0 (Kd.S k45 45 wr w.heap.size (okL L i f1 w5.heap.size) v5 ((L.take i).map (look all))) ∧ Aside0 (∀ k, v5.ownBlock = some k → w5.heap.size ≤ k) ∧ Aside0 (Below w5.heap.size w5 wr)) (fun _ v19 _ => L.length - (intOf v19).toNat)
  case atStart => exact ⟨0, rfl, Nat.zero_le _, ⟨Kd.S_nil _ _ _ _ _⟩, ⟨fun k hk => by simp [Value.ownBlock] at hk⟩, ⟨Below.refl _ _⟩⟩
  case round =>
    obtain ⟨i, rfl, hi, HS, HOW, HBW⟩ := hrel
    have hl12 := HL12.out
    by_cases hlt : i < L.length
    · have c3b0 : decide ((i : Int) < (L.length : Int)) = true := decide_eq_true (by omega)
      have c3b1 : decide (i < L.length) = true := decide_eq_true hlt
      have p1 : 0 ≤ (i : Int) := by omega
      have q1 : (i : Int) < (L.length : Int) := by omega
      obtain ⟨e0, he0⟩ : ∃ e0, look all L[i] = e0 := ⟨_, rfl⟩
      obtain ⟨hmem, hq⟩ := HK.out L[i] (List.getElem_mem hlt)
      rw [he0] at hmem hq
      have hwf := wf_of_U (HO.out.2.2 e0 hmem)
      have HMr := HM5.out.below HBW.out
      obtain ⟨v, _, hrun, hr⟩ := HMr.hit hwf hmem
      obtain ⟨Ae, ce, rfl⟩ := Kd.R_slice hr
      have HR := Aside0.mk hr
      obtain ⟨ad, cc, rfl, _, hK, hcell⟩ := Kd.C_get (Kd.R_reads' (Kd.R_below HR5.out HBW.out)).2.2 (0 : Int) (i : Int) p1 q1
      have hx0 : wr.cell? (ad.add i) = some (.int .u64 e0.f0) := by
        have hcc : cc = [.int .u64 (L.getD (i : Int).toNat 0)] := hK
        have := hcell 0 (.int .u64 (L.getD (i : Int).toNat 0)) (by rw [hcc]; rfl)
        rw [Int.toNat_natCast, List.getD_eq_getElem?_getD, List.getElem?_eq_getElem hlt] at this
        rw [hq]
        simpa [Kd.int, Kd.scalar] using this
      obtain ⟨o1, o2, o3⟩ := okL_next (b := w2.heap.size) HF.out HN.out HU.out hlt
      rw [← hq] at o1 o2 o3
      have O1 := Aside0.mk o1
      have O2 := Aside0.mk o2
      have O3 := Aside0.mk o3
      have hlen2 : ((L.take i).map (look all)).length = i := by rw [List.length_map, List.length_take]; omega
      have HLN := Aside0.mk hlen2
      have hnext : (L.take (i + 1)).map (look all) = (L.take i).map (look all) ++ [e0] := by rw [List.take_succ_eq_append_getElem hlt, List.map_append, ← he0]; rfl
      have HNX := Aside0.mk hnext
      have HLT := Aside0.mk hlt
      have HBY : Aside0 (Below w.heap.size w wr) := ⟨below_step HBW5.out HBW.out⟩
      clear hmem he0 hq hi hK hcell hr HMr o1 o2 o3 hlen2 hnext hlt hl12 hwf
      go_wp2_with ((with_reducible refine gate_builtin (b := .append) (xs := #[.tmp 23, .tmp 27]) rfl ?_); at_builtin; (refine Kd.S_append k45 (w0 := w) w.heap.size rfl (.tmp 23) (.tmp 27) 38 45 (.agg #[(.int .u64 0), (.int .u64 0), (.slice none 0 0)]) 40 rfl Try.underlying38 info45 rfl (by decide) (by omega) _ ((L.take i).map (look all)) e0 [.int .u64 e0.f0, .int .u64 e0.f1, .slice Ae e0.f2.length ce] (okL L (i + 1) f1 w5.heap.size) (fun k => f1 k = e0.f0.toNat ∧ k ≠ w2.heap.size) rfl rfl ?aP ?aK ?aF ?aO ?aB ?aS ?aL ?_); (case aP => exact k45_mkM _ _ _ e0 HR.out); (case aK => exact fun k hk => ⟨O3.out k hk, fun c => by have := HOW.out k c.symm; have := O1.out k hk; omega⟩); (case aF => exact fun k hk => .inr (Nat.le_trans HBW.out.size hk)); (case aO => exact Kd.S_mono HS.out O2.out); (case aB => exact HBY.out); (case aS => exact HBY.out.size); (case aL => have := HLN.out; have := HLT.out; have := HL12.out; omega); intro v1 w6 ho hb hg hat; have HO6 := Aside0.mk ho; have HG6 := Aside0.mk hg; have HAT := Aside0.mk hat; clear ho hb hg hat)
      have HG : Aside0 (Below w5.heap.size w5 w6) := ⟨HBW.out.grown HG6.out HBW.out.size HOW.out⟩
      rw [← HNX.out] at HO6
      go_roundw
      case rel => exact ⟨i + 1, by have := HLT.out; have := HL12.out; exact congrArg (Value.int .i64) ((w64_id ((i : Int) + 1) (by omega) (by omega)).trans rfl), HLT.out, HO6, ⟨fun k hk => by
        rcases HAT.out with c | ⟨q, c, hq⟩
        · rw [c] at hk; exact HOW.out k hk
        · rw [c] at hk; cases hk; exact Nat.le_trans HBW.out.size hq⟩, HG⟩
      case measure =>
        have := HLT.out
        have := HL12.out
        rw [w64_id ((i : Int) + 1) (by omega) (by omega)]
        simp [intOf]; omega
    · have c3b0 : decide ((i : Int) < (L.length : Int)) = false := decide_eq_false (by omega)
      have c3b1 : decide (i < L.length) = false := decide_eq_false hlt
      have hr : (L.take i).map (look all) = L.map (look all) := by rw [List.take_of_length_le (by omega)]
      rw [hr] at HS
      clear hlt hr hi hl12
      go_wp2
      go_ret2
      refine ⟨_, rfl, ?_, below_step HBW5.out HBW.out⟩
      rw [HLE.out]
      exact Kd.S_mono HS.out (fun _ _ => trivial)
theorem sieve_Row.calls (k : Nat) (a0 : Int) (r : List S45) (r2 : Int) (w : World) (h : sieve_Row.f k a0 = some (r, r2)) :
    Calls Try.prog 17 #[.int .u64 a0] w fun e w' => ∃ v0_ : Value, e = .returned (.tuple #[v0_, .int .i64 r2]) ∧ Kd.S k45 45 w' w.heap.size (fun _ => True) v0_ r ∧ Below w.heap.size w w' := by
  unfold sieve_Row.f at h
  obtain ⟨t, h1, h⟩ := Option.bind_eq_some_iff.1 h
  cases t with
  | false =>
    rw [if_neg Bool.false_ne_true] at h
    obtain ⟨rfl, rfl⟩ := Prod.mk.inj (Option.some.inj h)
    exact sieve_Row.calls_not h1
  | true =>
    rw [if_pos rfl] at h
    obtain ⟨all, h2, h⟩ := Option.bind_eq_some_iff.1 h
    split at h
    case isFalse => cases h
    rename_i hok
    obtain ⟨rfl, rfl⟩ := Prod.mk.inj (Option.some.inj h)
    exact sieve_Row.calls_odd h1 h2 hok
end Go.Proofs.Ytcphlhphdpjnfaa.Row05
end
section
namespace Go.Proofs.Ytcphlhphdpjnfaa.XT
open Go.RowKit Go.Proofs.Ytcphlhphdpjnfaa.Given Go.Proofs.Ytcphlhphdpjnfaa.Given05 Go.Proofs.Ytcphlhphdpjnfaa.XS Go.Proofs.Ytcphlhphdpjnfaa.Given04 Go.Proofs.Ytcphlhphdpjnfaa.Row05 Go.Proofs.YtcphlhphdpjnfaaW.PrintWords Go.Proofs.YtcphlhphdpjnfaaW.PrintLast Go.Proofs.YtcphlhphdpjnfaaW.PrintMore
attribute [local go_sem] max2_int min2_int max_two min_two max_three min_three max_four min_four   -- for this text's walks alone
set_option linter.unusedVariables false
set_option linter.unusedSimpArgs false
mutual
def proof_whole.j0 : Nat → List (S45) → Bool → Int → Int → List (S33) → Option (Bool)
  | 0, _, _, _, _, _ => none
  | k + 1, x0, x27, x116000, x116001, x116002 => if x27 = true then (some false) else (proof_whole.l0 k x0 1 x116002 (x116002.length : Int) 0 x116000 x116001 x116002)
def proof_whole.l0 : Nat → List (S45) → Int → List (S33) → Int → Int → Int → Int → List (S33) → Option (Bool)
  | 0, _, _, _, _, _, _, _, _ => none
  | k + 1, x0, x5, x29, x30, x31, x116000, x116001, x116002 => if x31 < x30 then (if 0 ≤ x31 then (if x31 < (x29.length : Int) then (if ((rd_T33 x29 x31).f1) < 1 then (proof_whole.j2 k x0 x5 x31 x29 x30 x31 true x116000 x116001 x116002 ((rd_T33 x29 x31).f0) ((rd_T33 x29 x31).f1)) else (proof_whole.j2 k x0 x5 x31 x29 x30 x31 (decide (((rd_T33 x29 x31).f1) > 62)) x116000 x116001 x116002 ((rd_T33 x29 x31).f0) ((rd_T33 x29 x31).f1))) else (none)) else (none)) else (some (x5 == (IntKind.u64.wrap (x116000 - 1))))
def proof_whole.j2 : Nat → List (S45) → Int → Int → List (S33) → Int → Int → Bool → Int → Int → List (S33) → Int → Int → Option (Bool)
  | 0, _, _, _, _, _, _, _, _, _, _, _, _ => none
  | k + 1, x0, x5, x6, x29, x30, x31, x43, x116000, x116001, x116002, x119000, x119001 => if x43 = true then (some false) else (if x6 > 0 then (if 0 ≤ (wrap64 (x6 - 1)) then (if (wrap64 (x6 - 1)) < (x116002.length : Int) then (if x119000 ≤ ((rd_T33 x116002 (wrap64 (x6 - 1))).f0) then (proof_whole.j3 k x0 x5 x29 x30 x31 true x116000 x116001 x116002 x119000 x119001) else ((proof_claimed.f x0 x119000).bind fun t120 => (proof_whole.j3 k x0 x5 x29 x30 x31 (!t120) x116000 x116001 x116002 x119000 x119001))) else (none)) else (none)) else (proof_whole.j3 k x0 x5 x29 x30 x31 false x116000 x116001 x116002 x119000 x119001))
def proof_whole.j3 : Nat → List (S45) → Int → List (S33) → Int → Int → Bool → Int → Int → List (S33) → Int → Int → Option (Bool)
  | 0, _, _, _, _, _, _, _, _, _, _, _ => none
  | k + 1, x0, x5, x29, x30, x31, x64, x116000, x116001, x116002, x119000, x119001 => if x64 = true then (some false) else (proof_whole.l1 k x0 x5 x29 x30 x31 x119001 0 x116000 x116001 x116002 x119000 x119001)
def proof_whole.l1 : Nat → List (S45) → Int → List (S33) → Int → Int → Int → Int → Int → Int → List (S33) → Int → Int → Option (Bool)
  | 0, _, _, _, _, _, _, _, _, _, _, _, _ => none
  | k + 1, x0, x5, x29, x30, x31, x66, x67, x116000, x116001, x116002, x119000, x119001 => if x67 < x66 then ((bits_Mul64.f x5 x119000).bind fun bt121 => (if bt121.1 > 0 then (some false) else (proof_whole.l1 k x0 bt121.2 x29 x30 x31 x66 (wrap64 (x67 + 1)) x116000 x116001 x116002 x119000 x119001))) else (proof_whole.l0 k x0 x5 x29 x30 (wrap64 (x31 + 1)) x116000 x116001 x116002)
end
def proof_whole.f (k : Nat) (l0 : List (S45)) (a1_0 : Int) (a1_1 : Int) (l1_2 : List (S33)) : Option (Bool) := if (l1_2.length : Int) = 0 then (proof_whole.j0 k l0 true a1_0 a1_1 l1_2) else (if (l1_2.length : Int) > 16 then (proof_whole.j0 k l0 true a1_0 a1_1 l1_2) else (if 0 < (l1_2.length : Int) then (proof_whole.j0 k l0 (((rd_T33 l1_2 0).f0) != 2) a1_0 a1_1 l1_2) else (none)))
def proof_whole.T9 : Bool × List (List Nat × List Nat) := (true, [([], []), ([0], [0]), ([1], [1]), ([2], [2]), ([3, 2], [2, 3]), ([2], [2]), ([5, 2], [2, 5]), ([2], [2]), ([7, 2], [2, 7]), ([6, 8, 2], [2, 6, 8]), ([9, 2], [2, 9]), ([10, 2], [2, 10]), ([4, 11, 2], [2, 4, 11]), ([12, 2, 2], [2, 12]), ([13], [13]), ([13], [13]), ([15, 13], [13, 15]), ([14, 16, 13, 13], [13, 14, 16]), ([17, 13], [13, 17]), ([13, 18, 2], [2, 13, 18]), ([2, 19], [2, 19])])
def proof_whole.B9 : List Nat := [0, 1, 3, 7, 15, 7, 39, 7, 135, 487, 999, 2023, 4095, 8191, 16383, 16383, 49151, 131071, 262143, 524287, 1048575]
theorem proof_whole.tab9 : rtab .any (opsOf Try.f39 9) = proof_whole.T9 := by kernel_rfl
theorem proof_whole.bits9 : waitsOk proof_whole.T9.2 proof_whole.B9 = true := by kernel_rfl
set_option maxHeartbeats 8000000 in
set_option maxRecDepth 100000 in
theorem proof_whole.calls (k : Nat) (A0 : Option Addr) (c0 : Nat) (l0 : List (S45)) (a1_0 : Int) (a1_1 : Int) (A1_2 : Option Addr) (c1_2 : Nat) (l1_2 : List (S33)) (r : Bool) (w : World) (hr0 : Kd.C k45 w A0 l0.length l0) (hc0 : l0.length ≤ c0) (hr1_2 : Kd.C k33 w A1_2 l1_2.length l1_2) (hc1_2 : l1_2.length ≤ c1_2) (h : proof_whole.f k l0 a1_0 a1_1 l1_2 = some r) :
    Calls Try.prog 39 #[.slice A0 l0.length c0, .agg #[.int .u64 a1_0, .int .u64 a1_1, .slice A1_2 l1_2.length c1_2]] w fun e w' => e = .returned (.bool r) ∧ Below w.heap.size w w' := by
  have hu45 := Try.underlying45
  have hu33 := Try.underlying33
  have HR0 := Aside0.mk hr0
  have HC0 := Aside0.mk hc0
  clear hr0 hc0
  have HR1_2 := Aside0.mk hr1_2
  have HC1_2 := Aside0.mk hc1_2
  clear hr1_2 hc1_2
  have HB := Aside0.mk (Below.refl w.heap.size w)
  have H : (if (l1_2.length : Int) = 0 then (proof_whole.j0 k l0 true a1_0 a1_1 l1_2) else (if (l1_2.length : Int) > 16 then (proof_whole.j0 k l0 true a1_0 a1_1 l1_2) else (if 0 < (l1_2.length : Int) then (proof_whole.j0 k l0 (((rd_T33 l1_2 0).f0) != 2) a1_0 a1_1 l1_2) else (none)))) = some r := h
  clear h
  have HC3 := Aside0.mk H
  clear H
  go_enter Try.func39, Try.ntmps39
  go_upto_region 1 with (first | ((with_reducible refine gate_dst (N := 3) rfl ?_); (try (refine gate_guard (by rfl) ?_; dsimp only)); refine box_event ?hg (N := 3) ?hd (cs := #[.int .u64 a1_0, .int .u64 a1_1, .slice A1_2 l1_2.length c1_2]) (t := 45) ?hr ?_; (case hd => rfl); (case hg => rfl); (case hr => first | (go_simp; done) | (go_simp; rfl)); intro gb115 hg w4 hbox hb; have n0_ := Aside0.mk (below_step (by repeat (first | (with_reducible first | exact HB.out | apply below_alloc | apply pw_below_drewN | apply below_drew1) | exact HB.out)) hb); have n1_ := Aside0.mk (hbox); have n2_ := Aside0.mk ((by rw [hg]; exact (below_size (by repeat (first | (with_reducible first | exact HB.out | apply below_alloc | apply pw_below_drewN | apply below_drew1) | exact HB.out))) : w.heap.size ≤ gb115)); have n3_ := Aside0.mk ((by rw [hg]; exact (below_size (by repeat (first | (with_reducible first | exact HB.out | apply below_alloc | apply pw_below_drewN | apply below_drew1) | exact HB.out))) : w.heap.size ≤ gb115)); clear HB; have HB := n0_; have BK115 := n1_; have GW115 := n2_; have GE115 := n3_; clear n0_ n1_ n2_ n3_; clear hb hbox hg))
  (try simp only [Act.put, List.setIfInBounds_toArray, List.set_cons_zero, List.set_cons_succ])
  go_cut [27] (fun v27 wc => ∃ (kq : Nat) (x27_2 : Bool), v27 = .bool x27_2 ∧ Aside0 (proof_whole.j0 kq l0 x27_2 a1_0 a1_1 l1_2 = some r) ∧ Aside0 (kq ≤ k) ∧ Aside0 (wc.heap[gb115]? = some (.cells #[.int .u64 a1_0, .int .u64 a1_1, (.slice A1_2 l1_2.length c1_2)] 45 (0, 0))) ∧ Aside0 (Below w.heap.size w wc))
  case first =>
    have H := HC3.out
    clear HC3
    by_cases c5 : (l1_2.length : Int) = 0
    · rw [if_pos c5] at H
      have c5b0 : ((l1_2.length : Int) == 0) = true := beq_iff_eq.mpr c5
      have c5b1 : ((l1_2.length : Int) != 0) = false := bne_eq_false_iff_eq.mpr c5
      clear c5
      (first | rw [c5b0] | (simp only [i64_w, i32_w]; rw [c5b0]) | skip)
      have H' := Aside0.mk H
      clear H
      have hcz6_0 : w4.cell? ⟨gb115, 0, none⟩ = some (.int .u64 a1_0) := (blk_cell BK115.out 0).trans rfl
      have hcz6_1 : w4.cell? ⟨gb115, 1, none⟩ = some (.int .u64 a1_1) := (blk_cell BK115.out 1).trans rfl
      have hcz6_2 : w4.cell? ⟨gb115, 2, none⟩ = some (.slice A1_2 l1_2.length c1_2) := (blk_cell BK115.out 2).trans rfl
      have hfz6_0 := blk_frozen BK115.out 0
      have hfz6_1 := blk_frozen BK115.out 1
      have hfz6_2 := blk_frozen BK115.out 2
      go_wp2
      go_meet
      case rel => exact ⟨_, (true), (by first | rfl | (simp; done) | (simp [*]; done)), H', ⟨by first | omega | exact Nat.le_refl _⟩, ⟨by (with_reducible repeat (first | refine blk_drewN ?_ _ | refine blk_drew ?_ | refine blk_alloc ?_ _)); exact BK115.out⟩, ⟨by repeat (first | (with_reducible first | exact HB.out | apply below_alloc | apply pw_below_drewN | apply below_drew1 | refine below_set ?_ GE115.out) | exact HB.out)⟩⟩
    · rw [if_neg c5] at H
      have c5b0 : ((l1_2.length : Int) == 0) = false := beq_eq_false_iff_ne.mpr c5
      have c5b1 : ((l1_2.length : Int) != 0) = true := bne_iff_ne.mpr c5
      have c5b2 : ¬ (l1_2 = []) := fun h_ => c5 (by rw [h_]; rfl)
      (first | rw [c5b0] | (simp only [i64_w, i32_w]; rw [c5b0]) | skip)
      by_cases c7 : (l1_2.length : Int) > 16
      · rw [if_pos c7] at H
        have c7b0 : decide (16 < (l1_2.length : Int)) = true := decide_eq_true c7
        have c7b1 : decide (16 < l1_2.length) = true := decide_eq_true (by omega)
        clear c7
        have H' := Aside0.mk H
        clear H
        have hcz8_0 : w4.cell? ⟨gb115, 0, none⟩ = some (.int .u64 a1_0) := (blk_cell BK115.out 0).trans rfl
        have hcz8_1 : w4.cell? ⟨gb115, 1, none⟩ = some (.int .u64 a1_1) := (blk_cell BK115.out 1).trans rfl
        have hcz8_2 : w4.cell? ⟨gb115, 2, none⟩ = some (.slice A1_2 l1_2.length c1_2) := (blk_cell BK115.out 2).trans rfl
        have hfz8_0 := blk_frozen BK115.out 0
        have hfz8_1 := blk_frozen BK115.out 1
        have hfz8_2 := blk_frozen BK115.out 2
        go_wp2
        go_meet
        case rel => exact ⟨_, (true), (by first | rfl | (simp; done) | (simp [*]; done)), H', ⟨by first | omega | exact Nat.le_refl _⟩, ⟨by (with_reducible repeat (first | refine blk_drewN ?_ _ | refine blk_drew ?_ | refine blk_alloc ?_ _)); exact BK115.out⟩, ⟨by repeat (first | (with_reducible first | exact HB.out | apply below_alloc | apply pw_below_drewN | apply below_drew1 | refine below_set ?_ GE115.out) | exact HB.out)⟩⟩
      · rw [if_neg c7] at H
        have c7b0 : decide (16 < (l1_2.length : Int)) = false := decide_eq_false c7
        have c7b1 : decide (16 < l1_2.length) = false := decide_eq_false (by omega)
        clear c7
        by_cases c9 : 0 < (l1_2.length : Int)
        · rw [if_pos c9] at H
          have c9b0 : decide (0 < (l1_2.length : Int)) = true := decide_eq_true c9
          have c9b1 : decide (0 < l1_2.length) = true := decide_eq_true (by omega)
          clear c9
          have H' := Aside0.mk H
          clear H
          have hcz10_0 : w4.cell? ⟨gb115, 0, none⟩ = some (.int .u64 a1_0) := (blk_cell BK115.out 0).trans rfl
          have hcz10_1 : w4.cell? ⟨gb115, 1, none⟩ = some (.int .u64 a1_1) := (blk_cell BK115.out 1).trans rfl
          have hcz10_2 : w4.cell? ⟨gb115, 2, none⟩ = some (.slice A1_2 l1_2.length c1_2) := (blk_cell BK115.out 2).trans rfl
          have hfz10_0 := blk_frozen BK115.out 0
          have hfz10_1 := blk_frozen BK115.out 1
          have hfz10_2 := blk_frozen BK115.out 2
          have p116 : 0 ≤ (0 : Int) := (by omega)
          have q116 : 0 < (l1_2.length : Int) := of_decide_eq_true (by first | (with_reducible assumption) | assumption)
          obtain ⟨ad116, e116, hx116_0, hx116_1⟩ := at_T33 HR1_2.out 0 p116 q116
          cases e116
          have qi116 : (0 < l1_2.length) = True := eq_true (by omega)
          (try rw [show ((0 : Int)).toNat = 0 from rfl] at hx116_0)
          (try rw [show 0 * 2 = 0 from rfl] at hx116_0)
          (try rw [Addr.add_zero'] at hx116_0)
          (try rw [show ((0 : Int)).toNat = 0 from rfl] at hx116_1)
          (try rw [show 0 * 2 = 0 from rfl] at hx116_1)
          (try rw [Addr.add_zero'] at hx116_1)
          replace hx116_0 := (HB.out.cell (World.block_lt_of_cell? w _ hx116_0)).trans hx116_0
          replace hx116_1 := (HB.out.cell (World.block_lt_of_cell? w _ hx116_1)).trans hx116_1
          replace p116 := eq_true p116
          replace q116 := eq_true q116
          go_wp2
          go_meet
          case rel => exact ⟨_, ((((rd_T33 l1_2 0).f0) != 2)), (by first | rfl | (simp; done) | (simp [*]; done)), H', ⟨by first | omega | exact Nat.le_refl _⟩, ⟨by (with_reducible repeat (first | refine blk_drewN ?_ _ | refine blk_drew ?_ | refine blk_alloc ?_ _)); exact BK115.out⟩, ⟨by repeat (first | (with_reducible first | exact HB.out | apply below_alloc | apply pw_below_drewN | apply below_drew1 | refine below_set ?_ GE115.out) | exact HB.out)⟩⟩
        · rw [if_neg c9] at H
          exact absurd H (by simp)
  case rest =>
    clear HC3
    try clear c1
    try clear p1
    try clear q1
    try clear hx1
    try clear qi1
    try clear p2
    try clear c3
    try clear c5
    try clear c5b0
    try clear c5b1
    try clear c5b2
    try clear c7
    try clear c7b0
    try clear c7b1
    try clear c9
    try clear c9b0
    try clear c9b1
    try clear hcz10_0
    try clear hcz10_1
    try clear hcz10_2
    try clear hcz6_0
    try clear hcz6_1
    try clear hcz6_2
    try clear hcz8_0
    try clear hcz8_1
    try clear hcz8_2
    try clear hfz10_0
    try clear hfz10_1
    try clear hfz10_2
    try clear hfz6_0
    try clear hfz6_1
    try clear hfz6_2
    try clear hfz8_0
    try clear hfz8_1
    try clear hfz8_2
    try clear hx116_0
    try clear hx116_1
    try clear p116
    try clear q116
    obtain ⟨kq, x27_2, rfl, HA, HJ2, BK115, HB⟩ := hcut
    cases kq with
    | zero => exact absurd HA.out (by simp [proof_whole.j0])
    | succ kj2 =>
      have H := HA.out
      clear HA
      simp only [proof_whole.j0] at H
      by_cases c11 : x27_2 = true
      · subst c11
        have H1 : (some false) = some r := by rw [if_pos rfl] at H <;> exact H
        clear H
        have H := H1
        clear H1
        obtain rfl := Option.some.inj H
        go_wp2
        go_ret
        exact ⟨by first | rfl | (simp [errW_none, errW_some] <;> rfl) | (simp [*, errW_none, errW_some] <;> rfl), by repeat (first | (with_reducible first | exact HB.out | apply below_alloc | apply pw_below_drewN | apply below_drew1 | refine below_set ?_ GE115.out) | exact HB.out)⟩
      · replace c11 := Bool.eq_false_iff.mpr c11
        subst c11
        have H1 : (proof_whole.l0 kj2 l0 1 l1_2 (l1_2.length : Int) 0 a1_0 a1_1 l1_2) = some r := by rw [if_neg (show ¬ (false = true) by decide)] at H <;> exact H
        clear H
        have H := H1
        clear H1
        have H' := Aside0.mk H
        clear H
        have hcz12_0 : wc.cell? ⟨gb115, 0, none⟩ = some (.int .u64 a1_0) := (blk_cell BK115.out 0).trans rfl
        have hcz12_1 : wc.cell? ⟨gb115, 1, none⟩ = some (.int .u64 a1_1) := (blk_cell BK115.out 1).trans rfl
        have hcz12_2 : wc.cell? ⟨gb115, 2, none⟩ = some (.slice A1_2 l1_2.length c1_2) := (blk_cell BK115.out 2).trans rfl
        have hfz12_0 := blk_frozen BK115.out 0
        have hfz12_1 := blk_frozen BK115.out 1
        have hfz12_2 := blk_frozen BK115.out 2
        go_wp2
        go_loopg [5, 31] kj2 (fun kq v5 v31 w' => ∃ (x5_2 : Int) (x31_2 : Int), v5 = .int .u64 x5_2 ∧ v31 = .int .i64 x31_2 ∧ Aside0 (proof_whole.l0 kq l0 x5_2 l1_2 (l1_2.length : Int) x31_2 a1_0 a1_1 l1_2 = some r) ∧ Aside0 (kq ≤ kj2) ∧ Aside0 (w'.heap[gb115]? = some (.cells #[.int .u64 a1_0, .int .u64 a1_1, (.slice A1_2 l1_2.length c1_2)] 45 (0, 0))) ∧ Aside0 (Below w.heap.size w w'))
        case atStart => exact ⟨(1), (0), (by first | rfl | (simp; done) | (simp [*]; done)), (by first | rfl | (simp; done) | (simp [*]; done)), H', ⟨Nat.le_refl _⟩, ⟨by (with_reducible repeat (first | refine blk_drewN ?_ _ | refine blk_drew ?_ | refine blk_alloc ?_ _)); exact BK115.out⟩, ⟨by repeat (first | (with_reducible first | exact HB.out | apply below_alloc | apply pw_below_drewN | apply below_drew1 | refine below_set ?_ GE115.out) | exact HB.out)⟩⟩
        case round =>
          clear H'
          try clear c1
          try clear p1
          try clear q1
          try clear hx1
          try clear qi1
          try clear p2
          try clear c3
          try clear c5
          try clear c5b0
          try clear c5b1
          try clear c5b2
          try clear c7
          try clear c7b0
          try clear c7b1
          try clear c9
          try clear c9b0
          try clear c9b1
          try clear c11
          try clear p11
          try clear q11
          try clear hx11
          try clear qi11
          try clear hcz10_0
          try clear hcz10_1
          try clear hcz10_2
          try clear hcz12_0
          try clear hcz12_1
          try clear hcz12_2
          try clear hcz6_0
          try clear hcz6_1
          try clear hcz6_2
          try clear hcz8_0
          try clear hcz8_1
          try clear hcz8_2
          try clear hfz10_0
          try clear hfz10_1
          try clear hfz10_2
          try clear hfz12_0
          try clear hfz12_1
          try clear hfz12_2
          try clear hfz6_0
          try clear hfz6_1
          try clear hfz6_2
          try clear hfz8_0
          try clear hfz8_1
          try clear hfz8_2
          try clear hx116_0
          try clear hx116_1
          try clear p1
          try clear p116
          try clear p2
          try clear q1
          try clear q116
          obtain ⟨x5_2, x31_2, rfl, rfl, HA, HK2, BK115, HB⟩ := hrel
          cases gk with
          | zero => exact absurd HA.out (by simp [proof_whole.l0])
          | succ k2 =>
            have H := HA.out
            clear HA
            simp only [proof_whole.l0] at H
            by_cases c13 : x31_2 < (l1_2.length : Int)
            · rw [if_pos c13] at H
              have c13b0 : decide (x31_2 < (l1_2.length : Int)) = true := decide_eq_true c13
              clear c13
              by_cases c14 : 0 ≤ x31_2
              · rw [if_pos c14] at H
                have c14b0 : decide (0 ≤ x31_2) = true := decide_eq_true c14
                clear c14
                by_cases c15 : x31_2 < (l1_2.length : Int)
                · rw [if_pos c15] at H
                  have c15b0 : decide (x31_2 < (l1_2.length : Int)) = true := decide_eq_true c15
                  clear c15
                  have HC16 := Aside0.mk H
                  clear H
                  have p117 : 0 ≤ (x31_2 : Int) := of_decide_eq_true (by first | (with_reducible assumption) | assumption)
                  have q117 : x31_2 < (l1_2.length : Int) := of_decide_eq_true (by first | (with_reducible assumption) | assumption)
                  obtain ⟨ad117, e117, hx117_0, hx117_1⟩ := at_T33 HR1_2.out x31_2 p117 q117
                  cases e117
                  replace hx117_0 := (HB.out.cell (World.block_lt_of_cell? w _ hx117_0)).trans hx117_0
                  replace hx117_1 := (HB.out.cell (World.block_lt_of_cell? w _ hx117_1)).trans hx117_1
                  replace p117 := eq_true p117
                  replace q117 := eq_true q117
                  go_upto_region 7 with (first | ((with_reducible refine gate_dst (N := 7) rfl ?_); (try (refine gate_guard (by rfl) ?_; dsimp only)); refine box_event ?hg (N := 7) ?hd (cs := #[.int .u64 0, .int .i64 0]) (t := 33) ?hr ?_; (case hd => rfl); (case hg => rfl); (case hr => first | (go_simp; done) | (go_simp; rfl)); intro gb118 hg w17 hbox hb; have n0_ := Aside0.mk (blk_below (g := gb115) (o := .cells #[.int .u64 a1_0, .int .u64 a1_1, .slice (some ad117) l1_2.length c1_2] 45 (0, 0)) (by (with_reducible repeat (first | refine blk_drewN ?_ _ | refine blk_drew ?_ | refine blk_alloc ?_ _)); exact BK115.out) hb); have n1_ := Aside0.mk (below_step (by repeat (first | (with_reducible first | exact HB.out | apply below_alloc | apply pw_below_drewN | apply below_drew1 | refine below_set ?_ GE115.out) | exact HB.out)) hb); have n2_ := Aside0.mk (hbox); have n3_ := Aside0.mk ((by rw [hg]; exact (below_size (by repeat (first | (with_reducible first | exact HB.out | apply below_alloc | apply pw_below_drewN | apply below_drew1 | refine below_set ?_ GE115.out) | exact HB.out))) : w.heap.size ≤ gb118)); have n4_ := Aside0.mk ((by rw [hg]; exact (below_size (by repeat (first | (with_reducible first | exact HB.out | apply below_alloc | apply pw_below_drewN | apply below_drew1 | refine below_set ?_ GE115.out) | exact HB.out))) : w.heap.size ≤ gb118)); have n5_ := Aside0.mk ((by rw [hg]; exact Nat.ne_of_lt (blk_lt (g := gb115) (o := .cells #[.int .u64 a1_0, .int .u64 a1_1, .slice (some ad117) l1_2.length c1_2] 45 (0, 0)) (by (with_reducible repeat (first | refine blk_drewN ?_ _ | refine blk_drew ?_ | refine blk_alloc ?_ _)); exact BK115.out)) : gb115 ≠ gb118)); have n6_ := Aside0.mk ((by rw [hg]; exact Nat.ne_of_gt (blk_lt (g := gb115) (o := .cells #[.int .u64 a1_0, .int .u64 a1_1, .slice (some ad117) l1_2.length c1_2] 45 (0, 0)) (by (with_reducible repeat (first | refine blk_drewN ?_ _ | refine blk_drew ?_ | refine blk_alloc ?_ _)); exact BK115.out)) : gb118 ≠ gb115)); clear BK115; clear HB; have BK115 := n0_; have HB := n1_; have BK118 := n2_; have GW118 := n3_; have GE118 := n4_; have NB115_118 := n5_; have NB118_115 := n6_; clear n0_ n1_ n2_ n3_ n4_ n5_ n6_; clear hb hbox hg; have hnb18 := NB118_115.out; have hnc18 := NB115_118.out; have hcz19_0 : w17.cell? ⟨gb118, 0, none⟩ = some (.int .u64 0) := (blk_cell BK118.out 0).trans rfl; have hcz19_1 : w17.cell? ⟨gb118, 1, none⟩ = some (.int .i64 0) := (blk_cell BK118.out 1).trans rfl; have hfz19_0 := blk_frozen BK118.out 0; have hfz19_1 := blk_frozen BK118.out 1))
                  (try simp only [Act.put, List.setIfInBounds_toArray, List.set_cons_zero, List.set_cons_succ])
                  go_cut [43] (fun v43 wc => ∃ (kq : Nat) (x43_15 : Bool), v43 = .bool x43_15 ∧ Aside0 (proof_whole.j2 kq l0 x5_2 x31_2 l1_2 (l1_2.length : Int) x31_2 x43_15 a1_0 a1_1 l1_2 ((rd_T33 l1_2 x31_2).f0) ((rd_T33 l1_2 x31_2).f1) = some r) ∧ Aside0 (kq ≤ k2) ∧ Aside0 (wc.heap[gb115]? = some (.cells #[.int .u64 a1_0, .int .u64 a1_1, (.slice (some ad117) l1_2.length c1_2)] 45 (0, 0))) ∧ Aside0 (wc.heap[gb118]? = some (.cells #[.int .u64 ((rd_T33 l1_2 x31_2).f0), .int .i64 ((rd_T33 l1_2 x31_2).f1)] 33 (0, 0))) ∧ Aside0 (Below w.heap.size w wc))
                  case first =>
                    have H := HC16.out
                    clear HC16
                    by_cases c20 : ((rd_T33 l1_2 x31_2).f1) < 1
                    · rw [if_pos c20] at H
                      have c20b0 : decide (((rd_T33 l1_2 x31_2).f1) < 1) = true := decide_eq_true c20
                      clear c20
                      (first | rw [c20b0] | (simp only [i64_w, i32_w]; rw [c20b0]) | skip)
                      have H' := Aside0.mk H
                      clear H
                      have hnb21 := NB118_115.out
                      have hnc21 := NB115_118.out
                      have hcz22_0 : w17.cell? ⟨gb118, 0, none⟩ = some (.int .u64 0) := (blk_cell BK118.out 0).trans rfl
                      have hcz22_1 : w17.cell? ⟨gb118, 1, none⟩ = some (.int .i64 0) := (blk_cell BK118.out 1).trans rfl
                      have hfz22_0 := blk_frozen BK118.out 0
                      have hfz22_1 := blk_frozen BK118.out 1
                      go_wp2
                      go_meet
                      case rel => exact ⟨_, (true), (by first | rfl | (simp; done) | (simp [*]; done)), H', ⟨by have := HJ2.out; have := HK2.out; first | omega | exact Nat.le_refl _⟩, ⟨by (with_reducible repeat (first | refine blk_drewN ?_ _ | refine blk_drew ?_ | refine blk_alloc ?_ _)); refine blk_far ?_ NB115_118.out _; (with_reducible repeat (first | refine blk_drewN ?_ _ | refine blk_drew ?_ | refine blk_alloc ?_ _)); refine blk_far ?_ NB115_118.out _; (with_reducible repeat (first | refine blk_drewN ?_ _ | refine blk_drew ?_ | refine blk_alloc ?_ _)); exact BK115.out⟩, ⟨by (with_reducible repeat (first | refine blk_drewN ?_ _ | refine blk_drew ?_ | refine blk_alloc ?_ _)); refine blk_put (cs := #[.int .u64 ((rd_T33 l1_2 x31_2).f0), .int .i64 0]) ?_ 1 _ rfl; (with_reducible repeat (first | refine blk_drewN ?_ _ | refine blk_drew ?_ | refine blk_alloc ?_ _)); refine blk_put (cs := #[.int .u64 0, .int .i64 0]) ?_ 0 _ rfl; (with_reducible repeat (first | refine blk_drewN ?_ _ | refine blk_drew ?_ | refine blk_alloc ?_ _)); exact BK118.out⟩, ⟨by repeat (first | (with_reducible first | exact HB.out | apply below_alloc | apply pw_below_drewN | apply below_drew1 | refine below_set ?_ GE115.out | refine below_set ?_ GE118.out) | exact HB.out)⟩⟩
                    · rw [if_neg c20] at H
                      have c20b0 : decide (((rd_T33 l1_2 x31_2).f1) < 1) = false := decide_eq_false c20
                      clear c20
                      (first | rw [c20b0] | (simp only [i64_w, i32_w]; rw [c20b0]) | skip)
                      have H' := Aside0.mk H
                      clear H
                      have hnb23 := NB118_115.out
                      have hnc23 := NB115_118.out
                      have hcz24_0 : w17.cell? ⟨gb118, 0, none⟩ = some (.int .u64 0) := (blk_cell BK118.out 0).trans rfl
                      have hcz24_1 : w17.cell? ⟨gb118, 1, none⟩ = some (.int .i64 0) := (blk_cell BK118.out 1).trans rfl
                      have hfz24_0 := blk_frozen BK118.out 0
                      have hfz24_1 := blk_frozen BK118.out 1
                      go_wp2
                      go_meet
                      case rel => exact ⟨_, (decide (((rd_T33 l1_2 x31_2).f1) > 62)), (by first | rfl | (simp; done) | (simp [*]; done)), H', ⟨by have := HJ2.out; have := HK2.out; first | omega | exact Nat.le_refl _⟩, ⟨by (with_reducible repeat (first | refine blk_drewN ?_ _ | refine blk_drew ?_ | refine blk_alloc ?_ _)); refine blk_far ?_ NB115_118.out _; (with_reducible repeat (first | refine blk_drewN ?_ _ | refine blk_drew ?_ | refine blk_alloc ?_ _)); refine blk_far ?_ NB115_118.out _; (with_reducible repeat (first | refine blk_drewN ?_ _ | refine blk_drew ?_ | refine blk_alloc ?_ _)); exact BK115.out⟩, ⟨by (with_reducible repeat (first | refine blk_drewN ?_ _ | refine blk_drew ?_ | refine blk_alloc ?_ _)); refine blk_put (cs := #[.int .u64 ((rd_T33 l1_2 x31_2).f0), .int .i64 0]) ?_ 1 _ rfl; (with_reducible repeat (first | refine blk_drewN ?_ _ | refine blk_drew ?_ | refine blk_alloc ?_ _)); refine blk_put (cs := #[.int .u64 0, .int .i64 0]) ?_ 0 _ rfl; (with_reducible repeat (first | refine blk_drewN ?_ _ | refine blk_drew ?_ | refine blk_alloc ?_ _)); exact BK118.out⟩, ⟨by repeat (first | (with_reducible first | exact HB.out | apply below_alloc | apply pw_below_drewN | apply below_drew1 | refine below_set ?_ GE115.out | refine below_set ?_ GE118.out) | exact HB.out)⟩⟩
                  case rest =>
                    clear HC16
                    try clear c1
                    try clear p1
                    try clear q1
                    try clear hx1
                    try clear qi1
                    try clear c2
                    try clear p2
                    try clear c3
                    try clear c5
                    try clear c5b0
                    try clear c5b1
                    try clear c5b2
                    try clear c7
                    try clear c7b0
                    try clear c7b1
                    try clear c9
                    try clear c9b0
                    try clear c9b1
                    try clear c11
                    try clear p11
                    try clear q11
                    try clear hx11
                    try clear qi11
                    try clear c13
                    try clear c13b0
                    try clear c14
                    try clear c14b0
                    try clear c15
                    try clear c15b0
                    try clear c18
                    try clear c20
                    try clear c20b0
                    try clear c21
                    try clear c23
                    try clear hcz10_0
                    try clear hcz10_1
                    try clear hcz10_2
                    try clear hcz12_0
                    try clear hcz12_1
                    try clear hcz12_2
                    try clear hcz19_0
                    try clear hcz19_1
                    try clear hcz22_0
                    try clear hcz22_1
                    try clear hcz24_0
                    try clear hcz24_1
                    try clear hcz6_0
                    try clear hcz6_1
                    try clear hcz6_2
                    try clear hcz8_0
                    try clear hcz8_1
                    try clear hcz8_2
                    try clear hfz10_0
                    try clear hfz10_1
                    try clear hfz10_2
                    try clear hfz12_0
                    try clear hfz12_1
                    try clear hfz12_2
                    try clear hfz19_0
                    try clear hfz19_1
                    try clear hfz22_0
                    try clear hfz22_1
                    try clear hfz24_0
                    try clear hfz24_1
                    try clear hfz6_0
                    try clear hfz6_1
                    try clear hfz6_2
                    try clear hfz8_0
                    try clear hfz8_1
                    try clear hfz8_2
                    try clear hx116_0
                    try clear hx116_1
                    try clear hx117_0
                    try clear hx117_1
                    try clear p1
                    try clear p11
                    try clear p116
                    try clear p117
                    try clear p2
                    try clear q1
                    try clear q11
                    try clear q116
                    try clear q117
                    obtain ⟨kq, x43_15, rfl, HA, HJ15, BK115, BK118, HB⟩ := hcut
                    cases kq with
                    | zero => exact absurd HA.out (by simp [proof_whole.j2])
                    | succ kj15 =>
                      have H := HA.out
                      clear HA
                      simp only [proof_whole.j2] at H
                      by_cases c25 : x43_15 = true
                      · subst c25
                        have H1 : (some false) = some r := by rw [if_pos rfl] at H <;> exact H
                        clear H
                        have H := H1
                        clear H1
                        obtain rfl := Option.some.inj H
                        go_wp2
                        go_ret
                        exact ⟨by first | rfl | (simp [errW_none, errW_some] <;> rfl) | (simp [*, errW_none, errW_some] <;> rfl), by repeat (first | (with_reducible first | exact HB.out | apply below_alloc | apply pw_below_drewN | apply below_drew1 | refine below_set ?_ GE115.out | refine below_set ?_ GE118.out) | exact HB.out)⟩
                      · replace c25 := Bool.eq_false_iff.mpr c25
                        subst c25
                        have H1 : (if x31_2 > 0 then (if 0 ≤ (wrap64 (x31_2 - 1)) then (if (wrap64 (x31_2 - 1)) < (l1_2.length : Int) then (if ((rd_T33 l1_2 x31_2).f0) ≤ ((rd_T33 l1_2 (wrap64 (x31_2 - 1))).f0) then (proof_whole.j3 kj15 l0 x5_2 l1_2 (l1_2.length : Int) x31_2 true a1_0 a1_1 l1_2 ((rd_T33 l1_2 x31_2).f0) ((rd_T33 l1_2 x31_2).f1)) else ((proof_claimed.f l0 ((rd_T33 l1_2 x31_2).f0)).bind fun t120 => (proof_whole.j3 kj15 l0 x5_2 l1_2 (l1_2.length : Int) x31_2 (!t120) a1_0 a1_1 l1_2 ((rd_T33 l1_2 x31_2).f0) ((rd_T33 l1_2 x31_2).f1)))) else (none)) else (none)) else (proof_whole.j3 kj15 l0 x5_2 l1_2 (l1_2.length : Int) x31_2 false a1_0 a1_1 l1_2 ((rd_T33 l1_2 x31_2).f0) ((rd_T33 l1_2 x31_2).f1))) = some r := by rw [if_neg (show ¬ (false = true) by decide)] at H <;> exact H
                        clear H
                        have H := H1
                        clear H1
                        have HC26 := Aside0.mk H
                        clear H
                        go_upto_region 9 with (fail)
                        go_cut [64] (fun v64 wc => ∃ (kq : Nat) (x64_25 : Bool), v64 = .bool x64_25 ∧ Aside0 (proof_whole.j3 kq l0 x5_2 l1_2 (l1_2.length : Int) x31_2 x64_25 a1_0 a1_1 l1_2 ((rd_T33 l1_2 x31_2).f0) ((rd_T33 l1_2 x31_2).f1) = some r) ∧ Aside0 (kq ≤ kj15) ∧ Aside0 (wc.heap[gb115]? = some (.cells #[.int .u64 a1_0, .int .u64 a1_1, (.slice (some ad117) l1_2.length c1_2)] 45 (0, 0))) ∧ Aside0 (wc.heap[gb118]? = some (.cells #[.int .u64 ((rd_T33 l1_2 x31_2).f0), .int .i64 ((rd_T33 l1_2 x31_2).f1)] 33 (0, 0))) ∧ Aside0 (Below w.heap.size w wc))
                        case first =>
                          have H := HC26.out
                          clear HC26
                          by_cases c27 : x31_2 > 0
                          · rw [if_pos c27] at H
                            have c27b0 : decide (0 < x31_2) = true := decide_eq_true c27
                            clear c27
                            (first | rw [c27b0] | (simp only [i64_w, i32_w]; rw [c27b0]) | skip)
                            obtain ⟨ji28, hji28⟩ : ∃ j_ : Int, (wrap64 (x31_2 - 1)) = j_ := ⟨_, rfl⟩
                            replace H : (if 0 ≤ (ji28) then (if (ji28) < (l1_2.length : Int) then (if ((rd_T33 l1_2 x31_2).f0) ≤ ((rd_T33 l1_2 (ji28)).f0) then (proof_whole.j3 kj15 l0 x5_2 l1_2 (l1_2.length : Int) x31_2 true a1_0 a1_1 l1_2 ((rd_T33 l1_2 x31_2).f0) ((rd_T33 l1_2 x31_2).f1)) else ((proof_claimed.f l0 ((rd_T33 l1_2 x31_2).f0)).bind fun t120 => (proof_whole.j3 kj15 l0 x5_2 l1_2 (l1_2.length : Int) x31_2 (!t120) a1_0 a1_1 l1_2 ((rd_T33 l1_2 x31_2).f0) ((rd_T33 l1_2 x31_2).f1)))) else (none)) else (none)) = some r := by first | (rw [hji28] at H <;> exact H) | (simp only [hji28] at H ⊢; exact H)
                            have hji28w : (IntKind.i64.wrap (x31_2 - 1)) = ji28 := (i64_w _).trans hji28
                            by_cases c29 : 0 ≤ (ji28)
                            · rw [if_pos c29] at H
                              have c29b0 : decide (0 ≤ (ji28)) = true := decide_eq_true c29
                              clear c29
                              by_cases c30 : (ji28) < (l1_2.length : Int)
                              · rw [if_pos c30] at H
                                have c30b0 : decide ((ji28) < (l1_2.length : Int)) = true := decide_eq_true c30
                                clear c30
                                by_cases c31 : ((rd_T33 l1_2 x31_2).f0) ≤ ((rd_T33 l1_2 (ji28)).f0)
                                · rw [if_pos c31] at H
                                  have c31b0 : decide (((rd_T33 l1_2 x31_2).f0) ≤ ((rd_T33 l1_2 (ji28)).f0)) = true := decide_eq_true c31
                                  clear c31
                                  have H' := Aside0.mk H
                                  clear H
                                  try go_wp2
                                  have n0_ := Aside0.mk (blk_drew BK115.out)
                                  have n1_ := Aside0.mk (blk_drew BK118.out)
                                  have n2_ := Aside0.mk (below_drew1 HB.out)
                                  clear BK115
                                  clear BK118
                                  clear HB
                                  have BK115 := n0_
                                  have BK118 := n1_
                                  have HB := n2_
                                  clear n0_ n1_ n2_
                                  have p119 : 0 ≤ ((ji28) : Int) := of_decide_eq_true (by first | (with_reducible assumption) | assumption)
                                  have q119 : (ji28) < (l1_2.length : Int) := of_decide_eq_true (by first | (with_reducible assumption) | assumption)
                                  obtain ⟨ad119, e119, hx119_0, hx119_1⟩ := at_T33 HR1_2.out (ji28) p119 q119
                                  have hw119_1 := hx119_1
                                  have hw119_0 := hx119_0
                                  obtain rfl : ad117 = ad119 := (by injection e119)
                                  replace hx119_0 := (HB.out.cell (World.block_lt_of_cell? w _ hx119_0)).trans hx119_0
                                  replace hx119_1 := (HB.out.cell (World.block_lt_of_cell? w _ hx119_1)).trans hx119_1
                                  replace p119 := eq_true p119
                                  replace q119 := eq_true q119
                                  refine start_ (n := 21) (S := fun w' => w'.cell? ⟨gb118, 0, none⟩ = some (.int .u64 ((rd_T33 l1_2 x31_2).f0)) ∧ w'.cell? ⟨gb118, 1, none⟩ = some (.int .i64 ((rd_T33 l1_2 x31_2).f1)) ∧ w'.cell? ⟨gb115, 0, none⟩ = some (.int .u64 a1_0) ∧ w'.cell? ⟨gb115, 1, none⟩ = some (.int .u64 a1_1) ∧ w'.cell? ⟨gb115, 2, none⟩ = some (.slice (some ad117) l1_2.length c1_2) ∧ w'.cell? (ad117.add (((ji28)).toNat * 2)) = some (.int .u64 ((rd_T33 l1_2 (ji28)).f0)) ∧ w'.cell? ⟨(ad117.add (((ji28)).toNat * 2)).block, (ad117.add (((ji28)).toNat * 2)).off + 1, none⟩ = some (.int .i64 ((rd_T33 l1_2 (ji28)).f1))) (ds := []) #[false, false, false, false, false, false, false, false, false, false, false, false, false, false, false, false, false, false, false, false, false] (by kernel_rfl) rfl rfl ⟨(blk_cell BK118.out 0).trans rfl, (blk_cell BK118.out 1).trans rfl, (blk_cell BK115.out 0).trans rfl, (blk_cell BK115.out 1).trans rfl, (blk_cell BK115.out 2).trans rfl, ((HB.out.cell (World.block_lt_of_cell? w _ hw119_0)).trans hw119_0), ((HB.out.cell (World.block_lt_of_cell? w _ hw119_1)).trans hw119_1)⟩ (fun hHeld => ?_); refine with_tabW proof_whole.tab9 proof_whole.bits9 (fun HT_ HW_ => ?_)
                                  generalize wc.drew = w32 at BK115 BK118 HB hx119_0 hx119_1 hHeld ⊢
                                  refine pure_ (i := 0) (N := some 44) (v := ?_) (a' := ?_) #[true, false, false, false, false, false, false, false, false, false, false, false, false, false, false, false, false, false, false, false, false] rfl rfl (any_of HT_.out (by kernel_rfl)) (fun _ _ _ h => h) (Or.inl ⟨by rfl, ?_⟩) ?_ ?_
                                  rotate_left
                                  · intro w'
                                    go_simp
                                    with_reducible rfl
                                  rotate_left
                                  · simp only [Act.put, List.setIfInBounds_toArray, List.set_cons_zero, List.set_cons_succ, i64_w, i32_w]
                                    rfl
                                  refine pure_ (i := 1) (N := some 45) (v := ?_) (a' := ?_) #[true, true, false, false, false, false, false, false, false, false, false, false, false, false, false, false, false, false, false, false, false] rfl rfl (any_of HT_.out (by kernel_rfl)) (fun _ _ _ h => h) (Or.inl ⟨by rfl, ?_⟩) ?_ ?_
                                  rotate_left
                                  · intro w'
                                    go_simp
                                    with_reducible rfl
                                  rotate_left
                                  · simp only [Act.put, List.setIfInBounds_toArray, List.set_cons_zero, List.set_cons_succ, i64_w, i32_w]
                                    rfl
                                  refine pure_ (i := 2) (N := some 46) (v := ?_) (a' := ?_) #[true, true, true, false, false, false, false, false, false, false, false, false, false, false, false, false, false, false, false, false, false] rfl rfl (any_of HT_.out (by kernel_rfl)) (fun _ _ _ h => h) (Or.inl ⟨by rfl, ?_⟩) ?_ ?_
                                  rotate_left
                                  · intro w'
                                    go_simp
                                    with_reducible rfl
                                  rotate_left
                                  · simp only [Act.put, List.setIfInBounds_toArray, List.set_cons_zero, List.set_cons_succ, i64_w, i32_w]
                                    rfl
                                  refine pure_ (i := 3) (N := some 47) (v := ?_) (a' := ?_) #[true, true, true, true, false, false, false, false, false, false, false, false, false, false, false, false, false, false, false, false, false] rfl rfl (any_of HT_.out (by kernel_rfl)) (fun _ _ _ h => h) (Or.inl ⟨by rfl, ?_⟩) ?_ ?_
                                  rotate_left
                                  · intro w'
                                    go_simp
                                    with_reducible rfl
                                  rotate_left
                                  · simp only [Act.put, List.setIfInBounds_toArray, List.set_cons_zero, List.set_cons_succ, i64_w, i32_w]
                                    rfl
                                  refine pure_ (i := 5) (N := some 49) (v := ?_) (a' := ?_) #[true, true, true, true, false, true, false, false, false, false, false, false, false, false, false, false, false, false, false, false, false] rfl rfl (any_of HT_.out (by kernel_rfl)) (fun _ _ _ h => h) (Or.inl ⟨by rfl, ?_⟩) ?_ ?_
                                  rotate_left
                                  · intro w'
                                    go_simp
                                    with_reducible rfl
                                  rotate_left
                                  · simp only [Act.put, List.setIfInBounds_toArray, List.set_cons_zero, List.set_cons_succ, i64_w, i32_w]
                                    rfl
                                  refine pure_ (i := 7) (N := some 51) (v := ?_) (a' := ?_) #[true, true, true, true, false, true, false, true, false, false, false, false, false, false, false, false, false, false, false, false, false] rfl rfl (any_of HT_.out (by kernel_rfl)) (fun _ _ _ h => h) (Or.inl ⟨by rfl, ?_⟩) ?_ ?_
                                  rotate_left
                                  · intro w'
                                    go_simp
                                    with_reducible rfl
                                  rotate_left
                                  · simp only [Act.put, List.setIfInBounds_toArray, List.set_cons_zero, List.set_cons_succ, i64_w, i32_w]
                                    rfl
                                  refine pure_ (i := 8) (N := some 52) (v := ?_) (a' := ?_) #[true, true, true, true, false, true, false, true, true, false, false, false, false, false, false, false, false, false, false, false, false] rfl rfl (any_of HT_.out (by kernel_rfl)) (fun _ _ _ h => h) (Or.inl ⟨by rfl, ?_⟩) ?_ ?_
                                  rotate_left
                                  · intro w'
                                    go_simp
                                    with_reducible rfl
                                  rotate_left
                                  · simp only [Act.put, List.setIfInBounds_toArray, List.set_cons_zero, List.set_cons_succ, i64_w, i32_w]
                                    rfl
                                  refine take_ (i := 4) (N := some 48) (v := ?_) (a' := ?_) #[true, true, true, true, true, true, false, true, true, false, false, false, false, false, false, false, false, false, false, false, false] rfl rfl (take_ofW HT_.out HW_.out (by kernel_rfl)) (fun _ _ _ h => h) (Or.inl ⟨by rfl, ?_⟩) hHeld ?_ ?_
                                  rotate_left
                                  · rintro w' ⟨s0, s1, s2, s3, s4, s5, s6⟩
                                    go_simp
                                    with_reducible rfl
                                  rotate_left
                                  · simp only [Act.put, List.setIfInBounds_toArray, List.set_cons_zero, List.set_cons_succ, i64_w, i32_w]
                                    rfl
                                  refine take_ (i := 6) (N := some 50) (v := ?_) (a' := ?_) #[true, true, true, true, true, true, true, true, true, false, false, false, false, false, false, false, false, false, false, false, false] rfl rfl (take_ofW HT_.out HW_.out (by kernel_rfl)) (fun _ _ _ h => h) (Or.inl ⟨by rfl, ?_⟩) hHeld ?_ ?_
                                  rotate_left
                                  · rintro w' ⟨s0, s1, s2, s3, s4, s5, s6⟩
                                    go_simp
                                    with_reducible rfl
                                  rotate_left
                                  · simp only [Act.put, List.setIfInBounds_toArray, List.set_cons_zero, List.set_cons_succ, i64_w, i32_w]
                                    rfl
                                  refine pure_ (i := 9) (N := some 53) (v := ?_) (a' := ?_) #[true, true, true, true, true, true, true, true, true, true, false, false, false, false, false, false, false, false, false, false, false] rfl rfl (any_of HT_.out (by kernel_rfl)) (fun _ _ _ h => h) (Or.inl ⟨by rfl, ?_⟩) ?_ ?_
                                  rotate_left
                                  · intro w'
                                    go_simp
                                    with_reducible rfl
                                  rotate_left
                                  · simp only [Act.put, List.setIfInBounds_toArray, List.set_cons_zero, List.set_cons_succ, i64_w, i32_w]
                                    rfl
                                  refine pure_ (i := 10) (N := some 54) (v := ?_) (a' := ?_) #[true, true, true, true, true, true, true, true, true, true, true, false, false, false, false, false, false, false, false, false, false] rfl rfl (any_of HT_.out (by kernel_rfl)) (fun _ _ _ h => h) (Or.inl ⟨by rfl, ?_⟩) ?_ ?_
                                  rotate_left
                                  · intro w'
                                    go_simp
                                    with_reducible rfl
                                  rotate_left
                                  · simp only [Act.put, List.setIfInBounds_toArray, List.set_cons_zero, List.set_cons_succ, i64_w, i32_w]
                                    rfl
                                  refine take_ (i := 11) (N := some 55) (v := ?_) (a' := ?_) #[true, true, true, true, true, true, true, true, true, true, true, true, false, false, false, false, false, false, false, false, false] rfl rfl (take_ofW HT_.out HW_.out (by kernel_rfl)) (fun _ _ _ h => h) (Or.inl ⟨by rfl, ?_⟩) hHeld ?_ ?_
                                  rotate_left
                                  · rintro w' ⟨s0, s1, s2, s3, s4, s5, s6⟩
                                    go_simp
                                    with_reducible rfl
                                  rotate_left
                                  · simp only [Act.put, List.setIfInBounds_toArray, List.set_cons_zero, List.set_cons_succ, i64_w, i32_w]
                                    rfl
                                  refine pure_ (i := 12) (N := some 56) (v := ?_) (a' := ?_) #[true, true, true, true, true, true, true, true, true, true, true, true, true, false, false, false, false, false, false, false, false] rfl rfl (any_of HT_.out (by kernel_rfl)) (fun _ _ _ h => h) (Or.inl ⟨by rfl, ?_⟩) ?_ ?_
                                  rotate_left
                                  · intro w'
                                    go_simp
                                    with_reducible rfl
                                  rotate_left
                                  · simp only [Act.put, List.setIfInBounds_toArray, List.set_cons_zero, List.set_cons_succ, i64_w, i32_w]
                                    rfl
                                  refine pure_ (i := 13) (N := some 57) (v := ?_) (a' := ?_) #[true, true, true, true, true, true, true, true, true, true, true, true, true, true, false, false, false, false, false, false, false] rfl rfl (any_of HT_.out (by kernel_rfl)) (fun _ _ _ h => h) (Or.inl ⟨by rfl, ?_⟩) ?_ ?_
                                  rotate_left
                                  · intro w'
                                    go_simp
                                    with_reducible rfl
                                  rotate_left
                                  · simp only [Act.put, List.setIfInBounds_toArray, List.set_cons_zero, List.set_cons_succ, i64_w, i32_w]
                                    rfl
                                  refine pure_ (i := 14) (N := some 58) (v := undef) (a' := ?_) #[true, true, true, true, true, true, true, true, true, true, true, true, true, true, true, false, false, false, false, false, false] rfl rfl (any_of HT_.out (by kernel_rfl)) (fun _ _ _ h => h) (Or.inr ⟨by rfl, rfl⟩) ?_ ?_
                                  rotate_left
                                  · simp only [Act.put, List.setIfInBounds_toArray, List.set_cons_zero, List.set_cons_succ, i64_w, i32_w]
                                    rfl
                                  refine pure_ (i := 15) (N := some 59) (v := undef) (a' := ?_) #[true, true, true, true, true, true, true, true, true, true, true, true, true, true, true, true, false, false, false, false, false] rfl rfl (any_of HT_.out (by kernel_rfl)) (fun _ _ _ h => h) (Or.inr ⟨by rfl, rfl⟩) ?_ ?_
                                  rotate_left
                                  · simp only [Act.put, List.setIfInBounds_toArray, List.set_cons_zero, List.set_cons_succ, i64_w, i32_w]
                                    rfl
                                  refine pure_ (i := 16) (N := some 60) (v := undef) (a' := ?_) #[true, true, true, true, true, true, true, true, true, true, true, true, true, true, true, true, true, false, false, false, false] rfl rfl (any_of HT_.out (by kernel_rfl)) (fun _ _ _ h => h) (Or.inr ⟨by rfl, rfl⟩) ?_ ?_
                                  rotate_left
                                  · simp only [Act.put, List.setIfInBounds_toArray, List.set_cons_zero, List.set_cons_succ, i64_w, i32_w]
                                    rfl
                                  refine pure_ (i := 17) (N := some 61) (v := undef) (a' := ?_) #[true, true, true, true, true, true, true, true, true, true, true, true, true, true, true, true, true, true, false, false, false] rfl rfl (any_of HT_.out (by kernel_rfl)) (fun _ _ _ h => h) (Or.inr ⟨by rfl, rfl⟩) ?_ ?_
                                  rotate_left
                                  · simp only [Act.put, List.setIfInBounds_toArray, List.set_cons_zero, List.set_cons_succ, i64_w, i32_w]
                                    rfl
                                  refine pure_ (i := 18) (N := some 62) (v := undef) (a' := ?_) #[true, true, true, true, true, true, true, true, true, true, true, true, true, true, true, true, true, true, true, false, false] rfl rfl (any_of HT_.out (by kernel_rfl)) (fun _ _ _ h => h) (Or.inr ⟨by rfl, rfl⟩) ?_ ?_
                                  rotate_left
                                  · simp only [Act.put, List.setIfInBounds_toArray, List.set_cons_zero, List.set_cons_succ, i64_w, i32_w]
                                    rfl
                                  refine pure_ (i := 19) (N := some 63) (v := ?_) (a' := ?_) #[true, true, true, true, true, true, true, true, true, true, true, true, true, true, true, true, true, true, true, true, false] rfl rfl (any_of HT_.out (by kernel_rfl)) (fun _ _ _ h => h) (Or.inl ⟨by rfl, ?_⟩) ?_ ?_
                                  rotate_left
                                  · intro w'
                                    go_simp
                                    with_reducible rfl
                                  rotate_left
                                  · simp only [Act.put, List.setIfInBounds_toArray, List.set_cons_zero, List.set_cons_succ, i64_w, i32_w]
                                    rfl
                                  refine pure_ (i := 20) (N := some 64) (v := ?_) (a' := ?_) #[true, true, true, true, true, true, true, true, true, true, true, true, true, true, true, true, true, true, true, true, true] rfl rfl (any_of HT_.out (by kernel_rfl)) (fun _ _ _ h => h) (Or.inl ⟨by rfl, ?_⟩) ?_ ?_
                                  rotate_left
                                  · intro w'
                                    go_simp
                                    with_reducible rfl
                                  rotate_left
                                  · simp only [Act.put, List.setIfInBounds_toArray, List.set_cons_zero, List.set_cons_succ, i64_w, i32_w]
                                    rfl
                                  refine done_ (done_of HT_.out (by kernel_rfl)) ?_
                                  try go_wp2
                                  go_meet
                                  case rel => exact ⟨_, (true), (by first | rfl | (simp; done) | (simp [*]; done)), H', ⟨by have := HJ2.out; have := HK2.out; have := HJ15.out; first | omega | exact Nat.le_refl _⟩, ⟨by (with_reducible repeat (first | refine blk_drewN ?_ _ | refine blk_drew ?_ | refine blk_alloc ?_ _)); exact BK115.out⟩, ⟨by (with_reducible repeat (first | refine blk_drewN ?_ _ | refine blk_drew ?_ | refine blk_alloc ?_ _)); exact BK118.out⟩, ⟨by repeat (first | (with_reducible first | exact HB.out | apply below_alloc | apply pw_below_drewN | apply below_drew1 | refine below_set ?_ GE115.out | refine below_set ?_ GE118.out) | exact HB.out)⟩⟩
                                · rw [if_neg c31] at H
                                  have c31b0 : decide (((rd_T33 l1_2 x31_2).f0) ≤ ((rd_T33 l1_2 (ji28)).f0)) = false := decide_eq_false c31
                                  clear c31
                                  replace H := Option.bind_eq_some_iff.mp H
                                  obtain ⟨t120, A330, H⟩ := H
                                  replace H : (proof_whole.j3 kj15 l0 x5_2 l1_2 (l1_2.length : Int) x31_2 (!t120) a1_0 a1_1 l1_2 ((rd_T33 l1_2 x31_2).f0) ((rd_T33 l1_2 x31_2).f1)) = some r := H
                                  have A33 := Aside0.mk A330
                                  clear A330
                                  have H' := Aside0.mk H
                                  clear H
                                  try go_wp2
                                  have n0_ := Aside0.mk (blk_drew BK115.out)
                                  have n1_ := Aside0.mk (blk_drew BK118.out)
                                  have n2_ := Aside0.mk (below_drew1 HB.out)
                                  clear BK115
                                  clear BK118
                                  clear HB
                                  have BK115 := n0_
                                  have BK118 := n1_
                                  have HB := n2_
                                  clear n0_ n1_ n2_
                                  have p119 : 0 ≤ ((ji28) : Int) := of_decide_eq_true (by first | (with_reducible assumption) | assumption)
                                  have q119 : (ji28) < (l1_2.length : Int) := of_decide_eq_true (by first | (with_reducible assumption) | assumption)
                                  obtain ⟨ad119, e119, hx119_0, hx119_1⟩ := at_T33 HR1_2.out (ji28) p119 q119
                                  have hw119_1 := hx119_1
                                  have hw119_0 := hx119_0
                                  obtain rfl : ad117 = ad119 := (by injection e119)
                                  replace hx119_0 := (HB.out.cell (World.block_lt_of_cell? w _ hx119_0)).trans hx119_0
                                  replace hx119_1 := (HB.out.cell (World.block_lt_of_cell? w _ hx119_1)).trans hx119_1
                                  replace p119 := eq_true p119
                                  replace q119 := eq_true q119
                                  refine start_ (n := 21) (S := fun w' => w'.cell? ⟨gb118, 0, none⟩ = some (.int .u64 ((rd_T33 l1_2 x31_2).f0)) ∧ w'.cell? ⟨gb118, 1, none⟩ = some (.int .i64 ((rd_T33 l1_2 x31_2).f1)) ∧ w'.cell? ⟨gb115, 0, none⟩ = some (.int .u64 a1_0) ∧ w'.cell? ⟨gb115, 1, none⟩ = some (.int .u64 a1_1) ∧ w'.cell? ⟨gb115, 2, none⟩ = some (.slice (some ad117) l1_2.length c1_2) ∧ w'.cell? (ad117.add (((ji28)).toNat * 2)) = some (.int .u64 ((rd_T33 l1_2 (ji28)).f0)) ∧ w'.cell? ⟨(ad117.add (((ji28)).toNat * 2)).block, (ad117.add (((ji28)).toNat * 2)).off + 1, none⟩ = some (.int .i64 ((rd_T33 l1_2 (ji28)).f1))) (ds := []) #[false, false, false, false, false, false, false, false, false, false, false, false, false, false, false, false, false, false, false, false, false] (by kernel_rfl) rfl rfl ⟨(blk_cell BK118.out 0).trans rfl, (blk_cell BK118.out 1).trans rfl, (blk_cell BK115.out 0).trans rfl, (blk_cell BK115.out 1).trans rfl, (blk_cell BK115.out 2).trans rfl, ((HB.out.cell (World.block_lt_of_cell? w _ hw119_0)).trans hw119_0), ((HB.out.cell (World.block_lt_of_cell? w _ hw119_1)).trans hw119_1)⟩ (fun hHeld => ?_); refine with_tabW proof_whole.tab9 proof_whole.bits9 (fun HT_ HW_ => ?_)
                                  generalize wc.drew = w34 at BK115 BK118 HB hx119_0 hx119_1 hHeld ⊢
                                  refine pure_ (i := 0) (N := some 44) (v := ?_) (a' := ?_) #[true, false, false, false, false, false, false, false, false, false, false, false, false, false, false, false, false, false, false, false, false] rfl rfl (any_of HT_.out (by kernel_rfl)) (fun _ _ _ h => h) (Or.inl ⟨by rfl, ?_⟩) ?_ ?_
                                  rotate_left
                                  · intro w'
                                    go_simp
                                    with_reducible rfl
                                  rotate_left
                                  · simp only [Act.put, List.setIfInBounds_toArray, List.set_cons_zero, List.set_cons_succ, i64_w, i32_w]
                                    rfl
                                  refine pure_ (i := 1) (N := some 45) (v := ?_) (a' := ?_) #[true, true, false, false, false, false, false, false, false, false, false, false, false, false, false, false, false, false, false, false, false] rfl rfl (any_of HT_.out (by kernel_rfl)) (fun _ _ _ h => h) (Or.inl ⟨by rfl, ?_⟩) ?_ ?_
                                  rotate_left
                                  · intro w'
                                    go_simp
                                    with_reducible rfl
                                  rotate_left
                                  · simp only [Act.put, List.setIfInBounds_toArray, List.set_cons_zero, List.set_cons_succ, i64_w, i32_w]
                                    rfl
                                  refine pure_ (i := 2) (N := some 46) (v := ?_) (a' := ?_) #[true, true, true, false, false, false, false, false, false, false, false, false, false, false, false, false, false, false, false, false, false] rfl rfl (any_of HT_.out (by kernel_rfl)) (fun _ _ _ h => h) (Or.inl ⟨by rfl, ?_⟩) ?_ ?_
                                  rotate_left
                                  · intro w'
                                    go_simp
                                    with_reducible rfl
                                  rotate_left
                                  · simp only [Act.put, List.setIfInBounds_toArray, List.set_cons_zero, List.set_cons_succ, i64_w, i32_w]
                                    rfl
                                  refine pure_ (i := 3) (N := some 47) (v := ?_) (a' := ?_) #[true, true, true, true, false, false, false, false, false, false, false, false, false, false, false, false, false, false, false, false, false] rfl rfl (any_of HT_.out (by kernel_rfl)) (fun _ _ _ h => h) (Or.inl ⟨by rfl, ?_⟩) ?_ ?_
                                  rotate_left
                                  · intro w'
                                    go_simp
                                    with_reducible rfl
                                  rotate_left
                                  · simp only [Act.put, List.setIfInBounds_toArray, List.set_cons_zero, List.set_cons_succ, i64_w, i32_w]
                                    rfl
                                  refine pure_ (i := 5) (N := some 49) (v := ?_) (a' := ?_) #[true, true, true, true, false, true, false, false, false, false, false, false, false, false, false, false, false, false, false, false, false] rfl rfl (any_of HT_.out (by kernel_rfl)) (fun _ _ _ h => h) (Or.inl ⟨by rfl, ?_⟩) ?_ ?_
                                  rotate_left
                                  · intro w'
                                    go_simp
                                    with_reducible rfl
                                  rotate_left
                                  · simp only [Act.put, List.setIfInBounds_toArray, List.set_cons_zero, List.set_cons_succ, i64_w, i32_w]
                                    rfl
                                  refine pure_ (i := 7) (N := some 51) (v := ?_) (a' := ?_) #[true, true, true, true, false, true, false, true, false, false, false, false, false, false, false, false, false, false, false, false, false] rfl rfl (any_of HT_.out (by kernel_rfl)) (fun _ _ _ h => h) (Or.inl ⟨by rfl, ?_⟩) ?_ ?_
                                  rotate_left
                                  · intro w'
                                    go_simp
                                    with_reducible rfl
                                  rotate_left
                                  · simp only [Act.put, List.setIfInBounds_toArray, List.set_cons_zero, List.set_cons_succ, i64_w, i32_w]
                                    rfl
                                  refine pure_ (i := 8) (N := some 52) (v := ?_) (a' := ?_) #[true, true, true, true, false, true, false, true, true, false, false, false, false, false, false, false, false, false, false, false, false] rfl rfl (any_of HT_.out (by kernel_rfl)) (fun _ _ _ h => h) (Or.inl ⟨by rfl, ?_⟩) ?_ ?_
                                  rotate_left
                                  · intro w'
                                    go_simp
                                    with_reducible rfl
                                  rotate_left
                                  · simp only [Act.put, List.setIfInBounds_toArray, List.set_cons_zero, List.set_cons_succ, i64_w, i32_w]
                                    rfl
                                  refine take_ (i := 4) (N := some 48) (v := ?_) (a' := ?_) #[true, true, true, true, true, true, false, true, true, false, false, false, false, false, false, false, false, false, false, false, false] rfl rfl (take_ofW HT_.out HW_.out (by kernel_rfl)) (fun _ _ _ h => h) (Or.inl ⟨by rfl, ?_⟩) hHeld ?_ ?_
                                  rotate_left
                                  · rintro w' ⟨s0, s1, s2, s3, s4, s5, s6⟩
                                    go_simp
                                    with_reducible rfl
                                  rotate_left
                                  · simp only [Act.put, List.setIfInBounds_toArray, List.set_cons_zero, List.set_cons_succ, i64_w, i32_w]
                                    rfl
                                  refine take_ (i := 6) (N := some 50) (v := ?_) (a' := ?_) #[true, true, true, true, true, true, true, true, true, false, false, false, false, false, false, false, false, false, false, false, false] rfl rfl (take_ofW HT_.out HW_.out (by kernel_rfl)) (fun _ _ _ h => h) (Or.inl ⟨by rfl, ?_⟩) hHeld ?_ ?_
                                  rotate_left
                                  · rintro w' ⟨s0, s1, s2, s3, s4, s5, s6⟩
                                    go_simp
                                    with_reducible rfl
                                  rotate_left
                                  · simp only [Act.put, List.setIfInBounds_toArray, List.set_cons_zero, List.set_cons_succ, i64_w, i32_w]
                                    rfl
                                  refine pure_ (i := 9) (N := some 53) (v := ?_) (a' := ?_) #[true, true, true, true, true, true, true, true, true, true, false, false, false, false, false, false, false, false, false, false, false] rfl rfl (any_of HT_.out (by kernel_rfl)) (fun _ _ _ h => h) (Or.inl ⟨by rfl, ?_⟩) ?_ ?_
                                  rotate_left
                                  · intro w'
                                    go_simp
                                    with_reducible rfl
                                  rotate_left
                                  · simp only [Act.put, List.setIfInBounds_toArray, List.set_cons_zero, List.set_cons_succ, i64_w, i32_w]
                                    rfl
                                  refine pure_ (i := 10) (N := some 54) (v := ?_) (a' := ?_) #[true, true, true, true, true, true, true, true, true, true, true, false, false, false, false, false, false, false, false, false, false] rfl rfl (any_of HT_.out (by kernel_rfl)) (fun _ _ _ h => h) (Or.inl ⟨by rfl, ?_⟩) ?_ ?_
                                  rotate_left
                                  · intro w'
                                    go_simp
                                    with_reducible rfl
                                  rotate_left
                                  · simp only [Act.put, List.setIfInBounds_toArray, List.set_cons_zero, List.set_cons_succ, i64_w, i32_w]
                                    rfl
                                  refine take_ (i := 11) (N := some 55) (v := ?_) (a' := ?_) #[true, true, true, true, true, true, true, true, true, true, true, true, false, false, false, false, false, false, false, false, false] rfl rfl (take_ofW HT_.out HW_.out (by kernel_rfl)) (fun _ _ _ h => h) (Or.inl ⟨by rfl, ?_⟩) hHeld ?_ ?_
                                  rotate_left
                                  · rintro w' ⟨s0, s1, s2, s3, s4, s5, s6⟩
                                    go_simp
                                    with_reducible rfl
                                  rotate_left
                                  · simp only [Act.put, List.setIfInBounds_toArray, List.set_cons_zero, List.set_cons_succ, i64_w, i32_w]
                                    rfl
                                  refine pure_ (i := 12) (N := some 56) (v := ?_) (a' := ?_) #[true, true, true, true, true, true, true, true, true, true, true, true, true, false, false, false, false, false, false, false, false] rfl rfl (any_of HT_.out (by kernel_rfl)) (fun _ _ _ h => h) (Or.inl ⟨by rfl, ?_⟩) ?_ ?_
                                  rotate_left
                                  · intro w'
                                    go_simp
                                    with_reducible rfl
                                  rotate_left
                                  · simp only [Act.put, List.setIfInBounds_toArray, List.set_cons_zero, List.set_cons_succ, i64_w, i32_w]
                                    rfl
                                  refine pure_ (i := 13) (N := some 57) (v := ?_) (a' := ?_) #[true, true, true, true, true, true, true, true, true, true, true, true, true, true, false, false, false, false, false, false, false] rfl rfl (any_of HT_.out (by kernel_rfl)) (fun _ _ _ h => h) (Or.inl ⟨by rfl, ?_⟩) ?_ ?_
                                  rotate_left
                                  · intro w'
                                    go_simp
                                    with_reducible rfl
                                  rotate_left
                                  · simp only [Act.put, List.setIfInBounds_toArray, List.set_cons_zero, List.set_cons_succ, i64_w, i32_w]
                                    rfl
                                  refine pure_ (i := 14) (N := some 58) (v := ?_) (a' := ?_) #[true, true, true, true, true, true, true, true, true, true, true, true, true, true, true, false, false, false, false, false, false] rfl rfl (any_of HT_.out (by kernel_rfl)) (fun _ _ _ h => h) (Or.inl ⟨by rfl, ?_⟩) ?_ ?_
                                  rotate_left
                                  · intro w'
                                    go_simp
                                    with_reducible rfl
                                  rotate_left
                                  · simp only [Act.put, List.setIfInBounds_toArray, List.set_cons_zero, List.set_cons_succ, i64_w, i32_w]
                                    rfl
                                  refine pure_ (i := 15) (N := some 59) (v := ?_) (a' := ?_) #[true, true, true, true, true, true, true, true, true, true, true, true, true, true, true, true, false, false, false, false, false] rfl rfl (any_of HT_.out (by kernel_rfl)) (fun _ _ _ h => h) (Or.inl ⟨by rfl, ?_⟩) ?_ ?_
                                  rotate_left
                                  · intro w'
                                    go_simp
                                    with_reducible rfl
                                  rotate_left
                                  · simp only [Act.put, List.setIfInBounds_toArray, List.set_cons_zero, List.set_cons_succ, i64_w, i32_w]
                                    rfl
                                  refine take_ (i := 16) (N := some 60) (v := ?_) (a' := ?_) #[true, true, true, true, true, true, true, true, true, true, true, true, true, true, true, true, true, false, false, false, false] rfl rfl (take_ofW HT_.out HW_.out (by kernel_rfl)) (fun _ _ _ h => h) (Or.inl ⟨by rfl, ?_⟩) hHeld ?_ ?_
                                  rotate_left
                                  · rintro w' ⟨s0, s1, s2, s3, s4, s5, s6⟩
                                    go_simp
                                    with_reducible rfl
                                  rotate_left
                                  · simp only [Act.put, List.setIfInBounds_toArray, List.set_cons_zero, List.set_cons_succ, i64_w, i32_w]
                                    rfl
                                  refine one_ (i := 17) (N := some 61) #[true, true, true, true, true, true, true, true, true, true, true, true, true, true, true, true, true, true, false, false, false] rfl rfl (one_of HT_.out (by kernel_rfl)) (by decide) (fun K hK => ?_)
                                  refine goes_ Try.func46 (by kernel_rfl) rfl #[.slice A0 l0.length c0, .int .u64 ((rd_T33 l1_2 x31_2).f0)] (by rfl) rfl rfl (by (try simp only [List.map_toArray, List.map_cons, List.map_nil]); first | done | rfl | (simp only [List.length_drop, List.length_take]; rfl)) ?_
                                  with_reducible refine (proof_claimed.calls _ _ l0 ((rd_T33 l1_2 x31_2).f0) t120 _ ?side1 ?side2 A33.out).mono ?_
                                  (case side1 => repeat (first | exact (Kd.C_below HR0.out HB.out) | (with_reducible refine Kd.C_alloc ?_ _) | (with_reducible refine Kd.C_drewN ?_ _) | (with_reducible refine Kd.C_drew ?_)))
                                  (case side2 => exact HC0.out)
                                  rintro e w35 ⟨rfl, hb⟩
                                  refine ⟨_, rfl, ?_⟩
                                  have n0_ := Aside0.mk (blk_below (g := gb115) (o := .cells #[.int .u64 a1_0, .int .u64 a1_1, .slice (some ad117) l1_2.length c1_2] 45 (0, 0)) (by (with_reducible repeat (first | refine blk_drewN ?_ _ | refine blk_drew ?_ | refine blk_alloc ?_ _)); exact BK115.out) hb)
                                  have n1_ := Aside0.mk (blk_below (g := gb118) (o := .cells #[.int .u64 ((rd_T33 l1_2 x31_2).f0), .int .i64 ((rd_T33 l1_2 x31_2).f1)] 33 (0, 0)) (by (with_reducible repeat (first | refine blk_drewN ?_ _ | refine blk_drew ?_ | refine blk_alloc ?_ _)); exact BK118.out) hb)
                                  have n2_ := Aside0.mk (below_step (by repeat (first | (with_reducible first | exact HB.out | apply below_alloc | apply pw_below_drewN | apply below_drew1 | refine below_set ?_ GE115.out | refine below_set ?_ GE118.out) | exact HB.out)) hb)
                                  clear BK115
                                  clear BK118
                                  clear HB
                                  have BK115 := n0_
                                  have BK118 := n1_
                                  have HB := n2_
                                  clear n0_ n1_ n2_
                                  (try clear hb)
                                  (try clear hb2)
                                  (try clear hk)
                                  (try clear hi)
                                  refine hK.out _ _ ⟨(blk_cell BK118.out 0).trans rfl, (blk_cell BK118.out 1).trans rfl, (blk_cell BK115.out 0).trans rfl, (blk_cell BK115.out 1).trans rfl, (blk_cell BK115.out 2).trans rfl, ((HB.out.cell (World.block_lt_of_cell? w _ hw119_0)).trans hw119_0), ((HB.out.cell (World.block_lt_of_cell? w _ hw119_1)).trans hw119_1)⟩ (fun hHeld => ?_)
                                  clear hK K
                                  refine norm_ (a' := ?_) ?_ ?_
                                  rotate_left
                                  · show Act.put _ (some 61) _ = _
                                    simp only [Act.put, List.setIfInBounds_toArray, List.set_cons_zero, List.set_cons_succ, i64_w, i32_w]
                                    rfl
                                  refine pure_ (i := 18) (N := some 62) (v := ?_) (a' := ?_) #[true, true, true, true, true, true, true, true, true, true, true, true, true, true, true, true, true, true, true, false, false] rfl rfl (any_of HT_.out (by kernel_rfl)) (fun _ _ _ h => h) (Or.inl ⟨by rfl, ?_⟩) ?_ ?_
                                  rotate_left
                                  · intro w'
                                    go_simp
                                    with_reducible rfl
                                  rotate_left
                                  · simp only [Act.put, List.setIfInBounds_toArray, List.set_cons_zero, List.set_cons_succ, i64_w, i32_w]
                                    rfl
                                  refine pure_ (i := 19) (N := some 63) (v := ?_) (a' := ?_) #[true, true, true, true, true, true, true, true, true, true, true, true, true, true, true, true, true, true, true, true, false] rfl rfl (any_of HT_.out (by kernel_rfl)) (fun _ _ _ h => h) (Or.inl ⟨by rfl, ?_⟩) ?_ ?_
                                  rotate_left
                                  · intro w'
                                    go_simp
                                    with_reducible rfl
                                  rotate_left
                                  · simp only [Act.put, List.setIfInBounds_toArray, List.set_cons_zero, List.set_cons_succ, i64_w, i32_w]
                                    rfl
                                  refine pure_ (i := 20) (N := some 64) (v := ?_) (a' := ?_) #[true, true, true, true, true, true, true, true, true, true, true, true, true, true, true, true, true, true, true, true, true] rfl rfl (any_of HT_.out (by kernel_rfl)) (fun _ _ _ h => h) (Or.inl ⟨by rfl, ?_⟩) ?_ ?_
                                  rotate_left
                                  · intro w'
                                    go_simp
                                    with_reducible rfl
                                  rotate_left
                                  · simp only [Act.put, List.setIfInBounds_toArray, List.set_cons_zero, List.set_cons_succ, i64_w, i32_w]
                                    rfl
                                  refine done_ (done_of HT_.out (by kernel_rfl)) ?_
                                  try go_wp2
                                  go_meet
                                  case rel => exact ⟨_, (!t120), (by first | rfl | (simp; done) | (simp [*]; done)), H', ⟨by have := HJ2.out; have := HK2.out; have := HJ15.out; first | omega | exact Nat.le_refl _⟩, ⟨by (with_reducible repeat (first | refine blk_drewN ?_ _ | refine blk_drew ?_ | refine blk_alloc ?_ _)); exact BK115.out⟩, ⟨by (with_reducible repeat (first | refine blk_drewN ?_ _ | refine blk_drew ?_ | refine blk_alloc ?_ _)); exact BK118.out⟩, ⟨by repeat (first | (with_reducible first | exact HB.out | apply below_alloc | apply pw_below_drewN | apply below_drew1 | refine below_set ?_ GE115.out | refine below_set ?_ GE118.out) | exact HB.out)⟩⟩
                              · rw [if_neg c30] at H
                                exact absurd H (by simp)
                            · rw [if_neg c29] at H
                              exact absurd H (by simp)
                          · rw [if_neg c27] at H
                            have c27b0 : decide (0 < x31_2) = false := decide_eq_false c27
                            clear c27
                            (first | rw [c27b0] | (simp only [i64_w, i32_w]; rw [c27b0]) | skip)
                            have H' := Aside0.mk H
                            clear H
                            try go_wp2
                            have n0_ := Aside0.mk (blk_drew BK115.out)
                            have n1_ := Aside0.mk (blk_drew BK118.out)
                            have n2_ := Aside0.mk (below_drew1 HB.out)
                            clear BK115
                            clear BK118
                            clear HB
                            have BK115 := n0_
                            have BK118 := n1_
                            have HB := n2_
                            clear n0_ n1_ n2_
                            refine start_ (n := 21) (S := fun w' => True) (ds := []) #[false, false, false, false, false, false, false, false, false, false, false, false, false, false, false, false, false, false, false, false, false] (by kernel_rfl) rfl rfl trivial (fun hHeld => ?_); refine with_tabW proof_whole.tab9 proof_whole.bits9 (fun HT_ HW_ => ?_)
                            generalize wc.drew = w36 at BK115 BK118 HB hHeld ⊢
                            refine pure_ (i := 0) (N := some 44) (v := ?_) (a' := ?_) #[true, false, false, false, false, false, false, false, false, false, false, false, false, false, false, false, false, false, false, false, false] rfl rfl (any_of HT_.out (by kernel_rfl)) (fun _ _ _ h => h) (Or.inl ⟨by rfl, ?_⟩) ?_ ?_
                            rotate_left
                            · intro w'
                              go_simp
                              with_reducible rfl
                            rotate_left
                            · simp only [Act.put, List.setIfInBounds_toArray, List.set_cons_zero, List.set_cons_succ, i64_w, i32_w]
                              rfl
                            refine pure_ (i := 1) (N := some 45) (v := ?_) (a' := ?_) #[true, true, false, false, false, false, false, false, false, false, false, false, false, false, false, false, false, false, false, false, false] rfl rfl (any_of HT_.out (by kernel_rfl)) (fun _ _ _ h => h) (Or.inl ⟨by rfl, ?_⟩) ?_ ?_
                            rotate_left
                            · intro w'
                              go_simp
                              with_reducible rfl
                            rotate_left
                            · simp only [Act.put, List.setIfInBounds_toArray, List.set_cons_zero, List.set_cons_succ, i64_w, i32_w]
                              rfl
                            refine pure_ (i := 2) (N := some 46) (v := ?_) (a' := ?_) #[true, true, true, false, false, false, false, false, false, false, false, false, false, false, false, false, false, false, false, false, false] rfl rfl (any_of HT_.out (by kernel_rfl)) (fun _ _ _ h => h) (Or.inl ⟨by rfl, ?_⟩) ?_ ?_
                            rotate_left
                            · intro w'
                              go_simp
                              with_reducible rfl
                            rotate_left
                            · simp only [Act.put, List.setIfInBounds_toArray, List.set_cons_zero, List.set_cons_succ, i64_w, i32_w]
                              rfl
                            refine pure_ (i := 3) (N := some 47) (v := undef) (a' := ?_) #[true, true, true, true, false, false, false, false, false, false, false, false, false, false, false, false, false, false, false, false, false] rfl rfl (any_of HT_.out (by kernel_rfl)) (fun _ _ _ h => h) (Or.inr ⟨by rfl, rfl⟩) ?_ ?_
                            rotate_left
                            · simp only [Act.put, List.setIfInBounds_toArray, List.set_cons_zero, List.set_cons_succ, i64_w, i32_w]
                              rfl
                            refine pure_ (i := 4) (N := some 48) (v := undef) (a' := ?_) #[true, true, true, true, true, false, false, false, false, false, false, false, false, false, false, false, false, false, false, false, false] rfl rfl (any_of HT_.out (by kernel_rfl)) (fun _ _ _ h => h) (Or.inr ⟨by rfl, rfl⟩) ?_ ?_
                            rotate_left
                            · simp only [Act.put, List.setIfInBounds_toArray, List.set_cons_zero, List.set_cons_succ, i64_w, i32_w]
                              rfl
                            refine pure_ (i := 5) (N := some 49) (v := undef) (a' := ?_) #[true, true, true, true, true, true, false, false, false, false, false, false, false, false, false, false, false, false, false, false, false] rfl rfl (any_of HT_.out (by kernel_rfl)) (fun _ _ _ h => h) (Or.inr ⟨by rfl, rfl⟩) ?_ ?_
                            rotate_left
                            · simp only [Act.put, List.setIfInBounds_toArray, List.set_cons_zero, List.set_cons_succ, i64_w, i32_w]
                              rfl
                            refine pure_ (i := 6) (N := some 50) (v := undef) (a' := ?_) #[true, true, true, true, true, true, true, false, false, false, false, false, false, false, false, false, false, false, false, false, false] rfl rfl (any_of HT_.out (by kernel_rfl)) (fun _ _ _ h => h) (Or.inr ⟨by rfl, rfl⟩) ?_ ?_
                            rotate_left
                            · simp only [Act.put, List.setIfInBounds_toArray, List.set_cons_zero, List.set_cons_succ, i64_w, i32_w]
                              rfl
                            refine pure_ (i := 7) (N := some 51) (v := undef) (a' := ?_) #[true, true, true, true, true, true, true, true, false, false, false, false, false, false, false, false, false, false, false, false, false] rfl rfl (any_of HT_.out (by kernel_rfl)) (fun _ _ _ h => h) (Or.inr ⟨by rfl, rfl⟩) ?_ ?_
                            rotate_left
                            · simp only [Act.put, List.setIfInBounds_toArray, List.set_cons_zero, List.set_cons_succ, i64_w, i32_w]
                              rfl
                            refine pure_ (i := 8) (N := some 52) (v := undef) (a' := ?_) #[true, true, true, true, true, true, true, true, true, false, false, false, false, false, false, false, false, false, false, false, false] rfl rfl (any_of HT_.out (by kernel_rfl)) (fun _ _ _ h => h) (Or.inr ⟨by rfl, rfl⟩) ?_ ?_
                            rotate_left
                            · simp only [Act.put, List.setIfInBounds_toArray, List.set_cons_zero, List.set_cons_succ, i64_w, i32_w]
                              rfl
                            refine pure_ (i := 9) (N := some 53) (v := undef) (a' := ?_) #[true, true, true, true, true, true, true, true, true, true, false, false, false, false, false, false, false, false, false, false, false] rfl rfl (any_of HT_.out (by kernel_rfl)) (fun _ _ _ h => h) (Or.inr ⟨by rfl, rfl⟩) ?_ ?_
                            rotate_left
                            · simp only [Act.put, List.setIfInBounds_toArray, List.set_cons_zero, List.set_cons_succ, i64_w, i32_w]
                              rfl
                            refine pure_ (i := 10) (N := some 54) (v := undef) (a' := ?_) #[true, true, true, true, true, true, true, true, true, true, true, false, false, false, false, false, false, false, false, false, false] rfl rfl (any_of HT_.out (by kernel_rfl)) (fun _ _ _ h => h) (Or.inr ⟨by rfl, rfl⟩) ?_ ?_
                            rotate_left
                            · simp only [Act.put, List.setIfInBounds_toArray, List.set_cons_zero, List.set_cons_succ, i64_w, i32_w]
                              rfl
                            refine pure_ (i := 11) (N := some 55) (v := undef) (a' := ?_) #[true, true, true, true, true, true, true, true, true, true, true, true, false, false, false, false, false, false, false, false, false] rfl rfl (any_of HT_.out (by kernel_rfl)) (fun _ _ _ h => h) (Or.inr ⟨by rfl, rfl⟩) ?_ ?_
                            rotate_left
                            · simp only [Act.put, List.setIfInBounds_toArray, List.set_cons_zero, List.set_cons_succ, i64_w, i32_w]
                              rfl
                            refine pure_ (i := 12) (N := some 56) (v := undef) (a' := ?_) #[true, true, true, true, true, true, true, true, true, true, true, true, true, false, false, false, false, false, false, false, false] rfl rfl (any_of HT_.out (by kernel_rfl)) (fun _ _ _ h => h) (Or.inr ⟨by rfl, rfl⟩) ?_ ?_
                            rotate_left
                            · simp only [Act.put, List.setIfInBounds_toArray, List.set_cons_zero, List.set_cons_succ, i64_w, i32_w]
                              rfl
                            refine pure_ (i := 13) (N := some 57) (v := undef) (a' := ?_) #[true, true, true, true, true, true, true, true, true, true, true, true, true, true, false, false, false, false, false, false, false] rfl rfl (any_of HT_.out (by kernel_rfl)) (fun _ _ _ h => h) (Or.inr ⟨by rfl, rfl⟩) ?_ ?_
                            rotate_left
                            · simp only [Act.put, List.setIfInBounds_toArray, List.set_cons_zero, List.set_cons_succ, i64_w, i32_w]
                              rfl
                            refine pure_ (i := 14) (N := some 58) (v := undef) (a' := ?_) #[true, true, true, true, true, true, true, true, true, true, true, true, true, true, true, false, false, false, false, false, false] rfl rfl (any_of HT_.out (by kernel_rfl)) (fun _ _ _ h => h) (Or.inr ⟨by rfl, rfl⟩) ?_ ?_
                            rotate_left
                            · simp only [Act.put, List.setIfInBounds_toArray, List.set_cons_zero, List.set_cons_succ, i64_w, i32_w]
                              rfl
                            refine pure_ (i := 15) (N := some 59) (v := undef) (a' := ?_) #[true, true, true, true, true, true, true, true, true, true, true, true, true, true, true, true, false, false, false, false, false] rfl rfl (any_of HT_.out (by kernel_rfl)) (fun _ _ _ h => h) (Or.inr ⟨by rfl, rfl⟩) ?_ ?_
                            rotate_left
                            · simp only [Act.put, List.setIfInBounds_toArray, List.set_cons_zero, List.set_cons_succ, i64_w, i32_w]
                              rfl
                            refine pure_ (i := 16) (N := some 60) (v := undef) (a' := ?_) #[true, true, true, true, true, true, true, true, true, true, true, true, true, true, true, true, true, false, false, false, false] rfl rfl (any_of HT_.out (by kernel_rfl)) (fun _ _ _ h => h) (Or.inr ⟨by rfl, rfl⟩) ?_ ?_
                            rotate_left
                            · simp only [Act.put, List.setIfInBounds_toArray, List.set_cons_zero, List.set_cons_succ, i64_w, i32_w]
                              rfl
                            refine pure_ (i := 17) (N := some 61) (v := undef) (a' := ?_) #[true, true, true, true, true, true, true, true, true, true, true, true, true, true, true, true, true, true, false, false, false] rfl rfl (any_of HT_.out (by kernel_rfl)) (fun _ _ _ h => h) (Or.inr ⟨by rfl, rfl⟩) ?_ ?_
                            rotate_left
                            · simp only [Act.put, List.setIfInBounds_toArray, List.set_cons_zero, List.set_cons_succ, i64_w, i32_w]
                              rfl
                            refine pure_ (i := 18) (N := some 62) (v := undef) (a' := ?_) #[true, true, true, true, true, true, true, true, true, true, true, true, true, true, true, true, true, true, true, false, false] rfl rfl (any_of HT_.out (by kernel_rfl)) (fun _ _ _ h => h) (Or.inr ⟨by rfl, rfl⟩) ?_ ?_
                            rotate_left
                            · simp only [Act.put, List.setIfInBounds_toArray, List.set_cons_zero, List.set_cons_succ, i64_w, i32_w]
                              rfl
                            refine pure_ (i := 19) (N := some 63) (v := undef) (a' := ?_) #[true, true, true, true, true, true, true, true, true, true, true, true, true, true, true, true, true, true, true, true, false] rfl rfl (any_of HT_.out (by kernel_rfl)) (fun _ _ _ h => h) (Or.inr ⟨by rfl, rfl⟩) ?_ ?_
                            rotate_left
                            · simp only [Act.put, List.setIfInBounds_toArray, List.set_cons_zero, List.set_cons_succ, i64_w, i32_w]
                              rfl
                            refine pure_ (i := 20) (N := some 64) (v := ?_) (a' := ?_) #[true, true, true, true, true, true, true, true, true, true, true, true, true, true, true, true, true, true, true, true, true] rfl rfl (any_of HT_.out (by kernel_rfl)) (fun _ _ _ h => h) (Or.inl ⟨by rfl, ?_⟩) ?_ ?_
                            rotate_left
                            · intro w'
                              go_simp
                              with_reducible rfl
                            rotate_left
                            · simp only [Act.put, List.setIfInBounds_toArray, List.set_cons_zero, List.set_cons_succ, i64_w, i32_w]
                              rfl
                            refine done_ (done_of HT_.out (by kernel_rfl)) ?_
                            try go_wp2
                            go_meet
                            case rel => exact ⟨_, (false), (by first | rfl | (simp; done) | (simp [*]; done)), H', ⟨by have := HJ2.out; have := HK2.out; have := HJ15.out; first | omega | exact Nat.le_refl _⟩, ⟨by (with_reducible repeat (first | refine blk_drewN ?_ _ | refine blk_drew ?_ | refine blk_alloc ?_ _)); exact BK115.out⟩, ⟨by (with_reducible repeat (first | refine blk_drewN ?_ _ | refine blk_drew ?_ | refine blk_alloc ?_ _)); exact BK118.out⟩, ⟨by repeat (first | (with_reducible first | exact HB.out | apply below_alloc | apply pw_below_drewN | apply below_drew1 | refine below_set ?_ GE115.out | refine below_set ?_ GE118.out) | exact HB.out)⟩⟩
                        case rest =>
                          clear HC26
                          try clear c1
                          try clear p1
                          try clear q1
                          try clear hx1
                          try clear c2
                          try clear p2
                          try clear c3
                          try clear c4
                          try clear p6
                          try clear p11
                          try clear q11
                          try clear hx11
                          try clear c25
                          try clear c27
                          try clear c27b0
                          try clear c29
                          try clear c29b0
                          try clear c30
                          try clear c30b0
                          try clear c31
                          try clear c31b0
                          try clear hfz6_0
                          try clear hfz6_1
                          try clear hfz6_2
                          try clear hfz8_0
                          try clear hfz8_1
                          try clear hfz8_2
                          try clear hx116_0
                          try clear hx116_1
                          try clear hx117_0
                          try clear hx117_1
                          try clear hx119_0
                          try clear hx119_1
                          try clear p1
                          try clear p11
                          try clear p116
                          try clear p117
                          try clear p119
                          try clear p2
                          try clear q1
                          try clear q11
                          try clear q116
                          try clear q117
                          try clear q119
                          obtain ⟨kq, x64_25, rfl, HA, HJ25, BK115, BK118, HB⟩ := hcut
                          cases kq with
                          | zero => exact absurd HA.out (by simp [proof_whole.j3])
                          | succ kj25 =>
                            have H := HA.out
                            clear HA
                            simp only [proof_whole.j3] at H
                            by_cases c37 : x64_25 = true
                            · subst c37
                              have H1 : (some false) = some r := by rw [if_pos rfl] at H <;> exact H
                              clear H
                              have H := H1
                              clear H1
                              obtain rfl := Option.some.inj H
                              go_wp2
                              go_ret
                              exact ⟨by first | rfl | (simp [errW_none, errW_some] <;> rfl) | (simp [*, errW_none, errW_some] <;> rfl), by repeat (first | (with_reducible first | exact HB.out | apply below_alloc | apply pw_below_drewN | apply below_drew1 | refine below_set ?_ GE115.out | refine below_set ?_ GE118.out) | exact HB.out)⟩
                            · replace c37 := Bool.eq_false_iff.mpr c37
                              subst c37
                              have H1 : (proof_whole.l1 kj25 l0 x5_2 l1_2 (l1_2.length : Int) x31_2 ((rd_T33 l1_2 x31_2).f1) 0 a1_0 a1_1 l1_2 ((rd_T33 l1_2 x31_2).f0) ((rd_T33 l1_2 x31_2).f1)) = some r := by rw [if_neg (show ¬ (false = true) by decide)] at H <;> exact H
                              clear H
                              have H := H1
                              clear H1
                              have H' := Aside0.mk H
                              clear H
                              have hnb38 := NB118_115.out
                              have hnc38 := NB115_118.out
                              have hcz39_0 : wc.cell? ⟨gb118, 0, none⟩ = some (.int .u64 ((rd_T33 l1_2 x31_2).f0)) := (blk_cell BK118.out 0).trans rfl
                              have hcz39_1 : wc.cell? ⟨gb118, 1, none⟩ = some (.int .i64 ((rd_T33 l1_2 x31_2).f1)) := (blk_cell BK118.out 1).trans rfl
                              have hfz39_0 := blk_frozen BK118.out 0
                              have hfz39_1 := blk_frozen BK118.out 1
                              go_wp2
                              go_loopg [5, 67] kj25 (fun kq v5 v67 w' => ∃ (x5_5 : Int) (x67_5 : Int), v5 = .int .u64 x5_5 ∧ v67 = .int .i64 x67_5 ∧ Aside0 (proof_whole.l1 kq l0 x5_5 l1_2 (l1_2.length : Int) x31_2 ((rd_T33 l1_2 x31_2).f1) x67_5 a1_0 a1_1 l1_2 ((rd_T33 l1_2 x31_2).f0) ((rd_T33 l1_2 x31_2).f1) = some r) ∧ Aside0 (kq ≤ kj25) ∧ Aside0 (w'.heap[gb115]? = some (.cells #[.int .u64 a1_0, .int .u64 a1_1, (.slice (some ad117) l1_2.length c1_2)] 45 (0, 0))) ∧ Aside0 (w'.heap[gb118]? = some (.cells #[.int .u64 ((rd_T33 l1_2 x31_2).f0), .int .i64 ((rd_T33 l1_2 x31_2).f1)] 33 (0, 0))) ∧ Aside0 (Below w.heap.size w w'))
                              case atStart => exact ⟨(x5_2), (0), (by first | rfl | (simp; done) | (simp [*]; done)), (by first | rfl | (simp; done) | (simp [*]; done)), H', ⟨Nat.le_refl _⟩, ⟨by (with_reducible repeat (first | refine blk_drewN ?_ _ | refine blk_drew ?_ | refine blk_alloc ?_ _)); exact BK115.out⟩, ⟨by (with_reducible repeat (first | refine blk_drewN ?_ _ | refine blk_drew ?_ | refine blk_alloc ?_ _)); exact BK118.out⟩, ⟨by repeat (first | (with_reducible first | exact HB.out | apply below_alloc | apply pw_below_drewN | apply below_drew1 | refine below_set ?_ GE115.out | refine below_set ?_ GE118.out) | exact HB.out)⟩⟩
                              case round =>
                                clear H'
                                try clear c1
                                try clear p1
                                try clear q1
                                try clear hx1
                                try clear c2
                                try clear p2
                                try clear c3
                                try clear c4
                                try clear p6
                                try clear p11
                                try clear q11
                                try clear hx11
                                try clear c25
                                try clear c27
                                try clear c27b0
                                try clear c29
                                try clear c29b0
                                try clear c30
                                try clear c30b0
                                try clear c31
                                try clear c31b0
                                try clear c37
                                try clear c38
                                try clear hcz39_0
                                try clear hcz39_1
                                try clear hfz39_0
                                try clear hfz39_1
                                try clear hfz6_0
                                try clear hfz6_1
                                try clear hfz6_2
                                try clear hfz8_0
                                try clear hfz8_1
                                try clear hfz8_2
                                try clear hx116_0
                                try clear hx116_1
                                try clear hx117_0
                                try clear hx117_1
                                try clear hx119_0
                                try clear hx119_1
                                try clear p1
                                try clear p11
                                try clear p116
                                try clear p117
                                try clear p119
                                try clear p2
                                try clear p6
                                try clear q1
                                try clear q11
                                try clear q116
                                try clear q117
                                try clear q119
                                obtain ⟨x5_5, x67_5, rfl, rfl, HA, HK5, BK115, BK118, HB⟩ := hrel
                                cases gk with
                                | zero => exact absurd HA.out (by simp [proof_whole.l1])
                                | succ k5 =>
                                  have H := HA.out
                                  clear HA
                                  simp only [proof_whole.l1] at H
                                  by_cases c40 : x67_5 < ((rd_T33 l1_2 x31_2).f1)
                                  · rw [if_pos c40] at H
                                    have c40b0 : decide (x67_5 < ((rd_T33 l1_2 x31_2).f1)) = true := decide_eq_true c40
                                    clear c40
                                    replace H := Option.bind_eq_some_iff.mp H
                                    obtain ⟨⟨t121, t122⟩, A410, H⟩ := H
                                    replace H : (if t121 > 0 then (some false) else (proof_whole.l1 k5 l0 t122 l1_2 (l1_2.length : Int) x31_2 ((rd_T33 l1_2 x31_2).f1) (wrap64 (x67_5 + 1)) a1_0 a1_1 l1_2 ((rd_T33 l1_2 x31_2).f0) ((rd_T33 l1_2 x31_2).f1))) = some r := H
                                    have A41 := Aside0.mk A410
                                    clear A410
                                    by_cases c42 : t121 > 0
                                    · rw [if_pos c42] at H
                                      have c42b0 : decide (0 < t121) = true := decide_eq_true c42
                                      clear c42
                                      obtain rfl := Option.some.inj H
                                      have hnb43 := NB118_115.out
                                      have hnc43 := NB115_118.out
                                      have hcz44_0 : wr.cell? ⟨gb118, 0, none⟩ = some (.int .u64 ((rd_T33 l1_2 x31_2).f0)) := (blk_cell BK118.out 0).trans rfl
                                      have hcz44_1 : wr.cell? ⟨gb118, 1, none⟩ = some (.int .i64 ((rd_T33 l1_2 x31_2).f1)) := (blk_cell BK118.out 1).trans rfl
                                      have hfz44_0 := blk_frozen BK118.out 0
                                      have hfz44_1 := blk_frozen BK118.out 1
                                      go_wp2_with (first | ((with_reducible refine gate_callee (f := 41) rfl ?_); refine goesL_ (some 73) rfl rfl Try.func41 (by kernel_rfl) rfl #[.int .u64 x5_5, .int .u64 ((rd_T33 l1_2 x31_2).f0)] rfl (by (try simp only [List.map_toArray, List.map_cons, List.map_nil]); first | done | rfl | (simp only [List.length_drop, List.length_take]; rfl)) ?_; (with_reducible refine (bits_Mul64.calls x5_5 ((rd_T33 l1_2 x31_2).f0) t121 t122 _ A41.out).mono ?_); rintro e w' ⟨rfl, ⟨nd, rfl⟩⟩; refine ⟨_, rfl, ?_⟩))
                                      go_ret
                                      exact ⟨by first | rfl | (simp [errW_none, errW_some] <;> rfl) | (simp [*, errW_none, errW_some] <;> rfl), by repeat (first | (with_reducible first | exact HB.out | apply below_alloc | apply pw_below_drewN | apply below_drew1 | refine below_set ?_ GE115.out | refine below_set ?_ GE118.out) | exact HB.out)⟩
                                    · rw [if_neg c42] at H
                                      have c42b0 : decide (0 < t121) = false := decide_eq_false c42
                                      clear c42
                                      have H' := Aside0.mk H
                                      clear H
                                      have hnb45 := NB118_115.out
                                      have hnc45 := NB115_118.out
                                      have hcz46_0 : wr.cell? ⟨gb118, 0, none⟩ = some (.int .u64 ((rd_T33 l1_2 x31_2).f0)) := (blk_cell BK118.out 0).trans rfl
                                      have hcz46_1 : wr.cell? ⟨gb118, 1, none⟩ = some (.int .i64 ((rd_T33 l1_2 x31_2).f1)) := (blk_cell BK118.out 1).trans rfl
                                      have hfz46_0 := blk_frozen BK118.out 0
                                      have hfz46_1 := blk_frozen BK118.out 1
                                      go_wp2_with (first | ((with_reducible refine gate_callee (f := 41) rfl ?_); refine goesL_ (some 73) rfl rfl Try.func41 (by kernel_rfl) rfl #[.int .u64 x5_5, .int .u64 ((rd_T33 l1_2 x31_2).f0)] rfl (by (try simp only [List.map_toArray, List.map_cons, List.map_nil]); first | done | rfl | (simp only [List.length_drop, List.length_take]; rfl)) ?_; (with_reducible refine (bits_Mul64.calls x5_5 ((rd_T33 l1_2 x31_2).f0) t121 t122 _ A41.out).mono ?_); rintro e w' ⟨rfl, ⟨nd, rfl⟩⟩; refine ⟨_, rfl, ?_⟩))
                                      go_roundg k5
                                      case measure => have := HJ2.out; have := HK2.out; have := HJ15.out; have := HJ25.out; have := HK5.out; omega
                                      case rel => exact ⟨(t122), (wrap64 (x67_5 + 1)), (by first | rfl | (simp; done) | (simp [*]; done)), (by first | rfl | (simp; done) | (simp [*]; done)), H', ⟨by have := HJ2.out; have := HK2.out; have := HJ15.out; have := HJ25.out; have := HK5.out; omega⟩, ⟨by (with_reducible repeat (first | refine blk_drewN ?_ _ | refine blk_drew ?_ | refine blk_alloc ?_ _)); exact BK115.out⟩, ⟨by (with_reducible repeat (first | refine blk_drewN ?_ _ | refine blk_drew ?_ | refine blk_alloc ?_ _)); exact BK118.out⟩, ⟨by repeat (first | (with_reducible first | exact HB.out | apply below_alloc | apply pw_below_drewN | apply below_drew1 | refine below_set ?_ GE115.out | refine below_set ?_ GE118.out) | exact HB.out)⟩⟩
                                  · rw [if_neg c40] at H
                                    have c40b0 : decide (x67_5 < ((rd_T33 l1_2 x31_2).f1)) = false := decide_eq_false c40
                                    clear c40
                                    have H' := Aside0.mk H
                                    clear H
                                    go_wp2
                                    go_roundg k5
                                    case measure => have := HJ2.out; have := HK2.out; have := HJ15.out; have := HJ25.out; have := HK5.out; omega
                                    case rel => exact ⟨(x5_5), (wrap64 (x31_2 + 1)), (by first | rfl | (simp; done) | (simp [*]; done)), (by first | rfl | (simp; done) | (simp [*]; done)), H', ⟨by have := HJ2.out; have := HK2.out; have := HJ15.out; have := HJ25.out; have := HK5.out; omega⟩, ⟨by (with_reducible repeat (first | refine blk_drewN ?_ _ | refine blk_drew ?_ | refine blk_alloc ?_ _)); exact BK115.out⟩, ⟨by repeat (first | (with_reducible first | exact HB.out | apply below_alloc | apply pw_below_drewN | apply below_drew1 | refine below_set ?_ GE115.out | refine below_set ?_ GE118.out) | exact HB.out)⟩⟩
                · rw [if_neg c15] at H
                  exact absurd H (by simp)
              · rw [if_neg c14] at H
                exact absurd H (by simp)
            · rw [if_neg c13] at H
              have c13b0 : decide (x31_2 < (l1_2.length : Int)) = false := decide_eq_false c13
              clear c13
              obtain rfl := Option.some.inj H
              have hcz47_0 : wr.cell? ⟨gb115, 0, none⟩ = some (.int .u64 a1_0) := (blk_cell BK115.out 0).trans rfl
              have hcz47_1 : wr.cell? ⟨gb115, 1, none⟩ = some (.int .u64 a1_1) := (blk_cell BK115.out 1).trans rfl
              have hcz47_2 : wr.cell? ⟨gb115, 2, none⟩ = some (.slice A1_2 l1_2.length c1_2) := (blk_cell BK115.out 2).trans rfl
              have hfz47_0 := blk_frozen BK115.out 0
              have hfz47_1 := blk_frozen BK115.out 1
              have hfz47_2 := blk_frozen BK115.out 2
              go_wp2
              go_ret
              exact ⟨by first | rfl | (simp [errW_none, errW_some] <;> rfl) | (simp [*, errW_none, errW_some] <;> rfl), by repeat (first | (with_reducible first | exact HB.out | apply below_alloc | apply pw_below_drewN | apply below_drew1 | refine below_set ?_ GE115.out) | exact HB.out)⟩
end Go.Proofs.Ytcphlhphdpjnfaa.XT
end
section
namespace Go.Proofs.Ytcphlhphdpjnfaa.XT
open Go.RowKit Go.Proofs.Ytcphlhphdpjnfaa.Given Go.Proofs.Ytcphlhphdpjnfaa.Given05 Go.Proofs.Ytcphlhphdpjnfaa.XS Go.Proofs.Ytcphlhphdpjnfaa.Given04 Go.Proofs.Ytcphlhphdpjnfaa.Row05 Go.Proofs.YtcphlhphdpjnfaaW.PrintWords Go.Proofs.YtcphlhphdpjnfaaW.PrintLast Go.Proofs.YtcphlhphdpjnfaaW.PrintMore
attribute [local go_sem] max2_int min2_int max_two min_two max_three min_three max_four min_four   -- for this text's walks alone
set_option linter.unusedVariables false
set_option linter.unusedSimpArgs false
mutual
def proof_right.j0 : Nat → List (S45) → Bool → Int → Int → List (S33) → Option (Bool)
  | 0, _, _, _, _, _ => none
  | k + 1, x0, x31, x124000, x124001, x124002 => if x31 = true then (some false) else (if (x0.length : Int) > 0 then (if 0 ≤ (wrap64 ((x0.length : Int) - 1)) then (if (wrap64 ((x0.length : Int) - 1)) < (x0.length : Int) then (proof_right.j1 k x0 (decide (((rd_T45 x0 (wrap64 ((x0.length : Int) - 1))).f0) ≥ x124000)) x124000 x124001 x124002) else (none)) else (none)) else (proof_right.j1 k x0 false x124000 x124001 x124002))
def proof_right.j1 : Nat → List (S45) → Bool → Int → Int → List (S33) → Option (Bool)
  | 0, _, _, _, _, _ => none
  | k + 1, x0, x46, x124000, x124001, x124002 => if x46 = true then (some false) else ((proof_whole.f k x0 x124000 x124001 x124002).bind fun t125 => (if t125 = true then ((proof_full.f x124000 x124001 x124002).bind fun t126 => (some t126)) else (some false)))
end
def proof_right.f (k : Nat) (l0 : List (S45)) (a1_0 : Int) (a1_1 : Int) (l1_2 : List (S33)) : Option (Bool) := if (Go.bits .and .u64 a1_0 1) = 0 then (proof_right.j0 k l0 true a1_0 a1_1 l1_2) else (if a1_0 < 3 then (proof_right.j0 k l0 true a1_0 a1_1 l1_2) else (if a1_0 ≥ 9223372036854775808 then (proof_right.j0 k l0 true a1_0 a1_1 l1_2) else (if a1_1 < 2 then (proof_right.j0 k l0 true a1_0 a1_1 l1_2) else (proof_right.j0 k l0 (decide (a1_1 ≥ a1_0)) a1_0 a1_1 l1_2))))
set_option maxHeartbeats 8000000 in
set_option maxRecDepth 100000 in
theorem proof_right.calls (k : Nat) (A0 : Option Addr) (c0 : Nat) (l0 : List (S45)) (a1_0 : Int) (a1_1 : Int) (A1_2 : Option Addr) (c1_2 : Nat) (l1_2 : List (S33)) (r : Bool) (w : World) (hr0 : Kd.C k45 w A0 l0.length l0) (hc0 : l0.length ≤ c0) (hr1_2 : Kd.C k33 w A1_2 l1_2.length l1_2) (hc1_2 : l1_2.length ≤ c1_2) (h : proof_right.f k l0 a1_0 a1_1 l1_2 = some r) :
    Calls Try.prog 31 #[.slice A0 l0.length c0, .agg #[.int .u64 a1_0, .int .u64 a1_1, .slice A1_2 l1_2.length c1_2]] w fun e w' => e = .returned (.bool r) ∧ Below w.heap.size w w' := by
  have hu45 := Try.underlying45
  have HR0 := Aside0.mk hr0
  have HC0 := Aside0.mk hc0
  clear hr0 hc0
  have HR1_2 := Aside0.mk hr1_2
  have HC1_2 := Aside0.mk hc1_2
  clear hr1_2 hc1_2
  have HB := Aside0.mk (Below.refl w.heap.size w)
  have H : (if (Go.bits .and .u64 a1_0 1) = 0 then (proof_right.j0 k l0 true a1_0 a1_1 l1_2) else (if a1_0 < 3 then (proof_right.j0 k l0 true a1_0 a1_1 l1_2) else (if a1_0 ≥ 9223372036854775808 then (proof_right.j0 k l0 true a1_0 a1_1 l1_2) else (if a1_1 < 2 then (proof_right.j0 k l0 true a1_0 a1_1 l1_2) else (proof_right.j0 k l0 (decide (a1_1 ≥ a1_0)) a1_0 a1_1 l1_2))))) = some r := h
  clear h
  have HC3 := Aside0.mk H
  clear H
  go_enter Try.func31, Try.ntmps31
  go_upto_region 1 with (first | ((with_reducible refine gate_dst (N := 3) rfl ?_); refine box_event ?hg (N := 3) ?hd (cs := #[.int .u64 a1_0, .int .u64 a1_1, .slice A1_2 l1_2.length c1_2]) (t := 45) ?hr ?_; (case hd => rfl); (case hg => rfl); (case hr => first | (go_simp; done) | (go_simp; rfl)); intro gb123 hg w4 hbox hb; have n0_ := Aside0.mk (below_step (by repeat (first | (with_reducible first | exact HB.out | apply below_alloc | apply pw_below_drewN | apply below_drew1) | exact HB.out)) hb); have n1_ := Aside0.mk (hbox); have n2_ := Aside0.mk ((by rw [hg]; exact (below_size (by repeat (first | (with_reducible first | exact HB.out | apply below_alloc | apply pw_below_drewN | apply below_drew1) | exact HB.out))) : w.heap.size ≤ gb123)); have n3_ := Aside0.mk ((by rw [hg]; exact (below_size (by repeat (first | (with_reducible first | exact HB.out | apply below_alloc | apply pw_below_drewN | apply below_drew1) | exact HB.out))) : w.heap.size ≤ gb123)); clear HB; have HB := n0_; have BK123 := n1_; have GW123 := n2_; have GE123 := n3_; clear n0_ n1_ n2_ n3_; clear hb hbox hg))
  repeat (go_quiet (first | ((with_reducible refine gate_dst (N := 3) rfl ?_); refine box_event ?hg (N := 3) ?hd (cs := #[.int .u64 a1_0, .int .u64 a1_1, .slice A1_2 l1_2.length c1_2]) (t := 45) ?hr ?_; (case hd => rfl); (case hg => rfl); (case hr => first | (go_simp; done) | (go_simp; rfl)); intro gb123 hg w4 hbox hb; have n0_ := Aside0.mk (below_step (by repeat (first | (with_reducible first | exact HB.out | apply below_alloc | apply pw_below_drewN | apply below_drew1) | exact HB.out)) hb); have n1_ := Aside0.mk (hbox); have n2_ := Aside0.mk ((by rw [hg]; exact (below_size (by repeat (first | (with_reducible first | exact HB.out | apply below_alloc | apply pw_below_drewN | apply below_drew1) | exact HB.out))) : w.heap.size ≤ gb123)); have n3_ := Aside0.mk ((by rw [hg]; exact (below_size (by repeat (first | (with_reducible first | exact HB.out | apply below_alloc | apply pw_below_drewN | apply below_drew1) | exact HB.out))) : w.heap.size ≤ gb123)); clear HB; have HB := n0_; have BK123 := n1_; have GW123 := n2_; have GE123 := n3_; clear n0_ n1_ n2_ n3_; clear hb hbox hg)); go_upto_region 1 with (first | ((with_reducible refine gate_dst (N := 3) rfl ?_); refine box_event ?hg (N := 3) ?hd (cs := #[.int .u64 a1_0, .int .u64 a1_1, .slice A1_2 l1_2.length c1_2]) (t := 45) ?hr ?_; (case hd => rfl); (case hg => rfl); (case hr => first | (go_simp; done) | (go_simp; rfl)); intro gb123 hg w4 hbox hb; have n0_ := Aside0.mk (below_step (by repeat (first | (with_reducible first | exact HB.out | apply below_alloc | apply pw_below_drewN | apply below_drew1) | exact HB.out)) hb); have n1_ := Aside0.mk (hbox); have n2_ := Aside0.mk ((by rw [hg]; exact (below_size (by repeat (first | (with_reducible first | exact HB.out | apply below_alloc | apply pw_below_drewN | apply below_drew1) | exact HB.out))) : w.heap.size ≤ gb123)); have n3_ := Aside0.mk ((by rw [hg]; exact (below_size (by repeat (first | (with_reducible first | exact HB.out | apply below_alloc | apply pw_below_drewN | apply below_drew1) | exact HB.out))) : w.heap.size ≤ gb123)); clear HB; have HB := n0_; have BK123 := n1_; have GW123 := n2_; have GE123 := n3_; clear n0_ n1_ n2_ n3_; clear hb hbox hg)))
  (try simp only [Act.put, List.setIfInBounds_toArray, List.set_cons_zero, List.set_cons_succ])
  go_cut [31] (fun v31 wc => ∃ (kq : Nat) (x31_2 : Bool), v31 = .bool x31_2 ∧ Aside0 (proof_right.j0 kq l0 x31_2 a1_0 a1_1 l1_2 = some r) ∧ Aside0 (kq ≤ k) ∧ Aside0 (wc.heap[gb123]? = some (.cells #[.int .u64 a1_0, .int .u64 a1_1, (.slice A1_2 l1_2.length c1_2)] 45 (0, 0))) ∧ Aside0 (Below w.heap.size w wc))
  case first =>
    have H := HC3.out
    clear HC3
    by_cases c5 : (Go.bits .and .u64 a1_0 1) = 0
    · rw [if_pos c5] at H
      have c5b0 : ((Go.bits .and .u64 a1_0 1) == 0) = true := beq_iff_eq.mpr c5
      have c5b1 : ((Go.bits .and .u64 a1_0 1) != 0) = false := bne_eq_false_iff_eq.mpr c5
      clear c5
      (first | rw [c5b0] | (simp only [i64_w, i32_w]; rw [c5b0]) | skip)
      have H' := Aside0.mk H
      clear H
      have hcz6_0 : w4.cell? ⟨gb123, 0, none⟩ = some (.int .u64 a1_0) := (blk_cell BK123.out 0).trans rfl
      have hcz6_1 : w4.cell? ⟨gb123, 1, none⟩ = some (.int .u64 a1_1) := (blk_cell BK123.out 1).trans rfl
      have hcz6_2 : w4.cell? ⟨gb123, 2, none⟩ = some (.slice A1_2 l1_2.length c1_2) := (blk_cell BK123.out 2).trans rfl
      have hfz6_0 := blk_frozen BK123.out 0
      have hfz6_1 := blk_frozen BK123.out 1
      have hfz6_2 := blk_frozen BK123.out 2
      go_wp2
      repeat (go_quiet (fail); try go_wp2)
      go_meet
      case rel => exact ⟨_, (true), (by first | rfl | (simp; done) | (simp [*]; done)), H', ⟨by first | omega | exact Nat.le_refl _⟩, ⟨by (with_reducible repeat (first | refine blk_drewN ?_ _ | refine blk_drew ?_ | refine blk_alloc ?_ _)); exact BK123.out⟩, ⟨by repeat (first | (with_reducible first | exact HB.out | apply below_alloc | apply pw_below_drewN | apply below_drew1 | refine below_set ?_ GE123.out) | exact HB.out)⟩⟩
    · rw [if_neg c5] at H
      have c5b0 : ((Go.bits .and .u64 a1_0 1) == 0) = false := beq_eq_false_iff_ne.mpr c5
      have c5b1 : ((Go.bits .and .u64 a1_0 1) != 0) = true := bne_iff_ne.mpr c5
      (first | rw [c5b0] | (simp only [i64_w, i32_w]; rw [c5b0]) | skip)
      by_cases c7 : a1_0 < 3
      · rw [if_pos c7] at H
        have c7b0 : decide (a1_0 < 3) = true := decide_eq_true c7
        clear c7
        have H' := Aside0.mk H
        clear H
        have hcz8_0 : w4.cell? ⟨gb123, 0, none⟩ = some (.int .u64 a1_0) := (blk_cell BK123.out 0).trans rfl
        have hcz8_1 : w4.cell? ⟨gb123, 1, none⟩ = some (.int .u64 a1_1) := (blk_cell BK123.out 1).trans rfl
        have hcz8_2 : w4.cell? ⟨gb123, 2, none⟩ = some (.slice A1_2 l1_2.length c1_2) := (blk_cell BK123.out 2).trans rfl
        have hfz8_0 := blk_frozen BK123.out 0
        have hfz8_1 := blk_frozen BK123.out 1
        have hfz8_2 := blk_frozen BK123.out 2
        go_wp2
        repeat (go_quiet (fail); try go_wp2)
        go_meet
        case rel => exact ⟨_, (true), (by first | rfl | (simp; done) | (simp [*]; done)), H', ⟨by first | omega | exact Nat.le_refl _⟩, ⟨by (with_reducible repeat (first | refine blk_drewN ?_ _ | refine blk_drew ?_ | refine blk_alloc ?_ _)); exact BK123.out⟩, ⟨by repeat (first | (with_reducible first | exact HB.out | apply below_alloc | apply pw_below_drewN | apply below_drew1 | refine below_set ?_ GE123.out) | exact HB.out)⟩⟩
      · rw [if_neg c7] at H
        have c7b0 : decide (a1_0 < 3) = false := decide_eq_false c7
        clear c7
        by_cases c9 : a1_0 ≥ 9223372036854775808
        · rw [if_pos c9] at H
          have c9b0 : decide (9223372036854775808 ≤ a1_0) = true := decide_eq_true c9
          clear c9
          have H' := Aside0.mk H
          clear H
          have hcz10_0 : w4.cell? ⟨gb123, 0, none⟩ = some (.int .u64 a1_0) := (blk_cell BK123.out 0).trans rfl
          have hcz10_1 : w4.cell? ⟨gb123, 1, none⟩ = some (.int .u64 a1_1) := (blk_cell BK123.out 1).trans rfl
          have hcz10_2 : w4.cell? ⟨gb123, 2, none⟩ = some (.slice A1_2 l1_2.length c1_2) := (blk_cell BK123.out 2).trans rfl
          have hfz10_0 := blk_frozen BK123.out 0
          have hfz10_1 := blk_frozen BK123.out 1
          have hfz10_2 := blk_frozen BK123.out 2
          go_wp2
          repeat (go_quiet (fail); try go_wp2)
          go_meet
          case rel => exact ⟨_, (true), (by first | rfl | (simp; done) | (simp [*]; done)), H', ⟨by first | omega | exact Nat.le_refl _⟩, ⟨by (with_reducible repeat (first | refine blk_drewN ?_ _ | refine blk_drew ?_ | refine blk_alloc ?_ _)); exact BK123.out⟩, ⟨by repeat (first | (with_reducible first | exact HB.out | apply below_alloc | apply pw_below_drewN | apply below_drew1 | refine below_set ?_ GE123.out) | exact HB.out)⟩⟩
        · rw [if_neg c9] at H
          have c9b0 : decide (9223372036854775808 ≤ a1_0) = false := decide_eq_false c9
          clear c9
          by_cases c11 : a1_1 < 2
          · rw [if_pos c11] at H
            have c11b0 : decide (a1_1 < 2) = true := decide_eq_true c11
            clear c11
            have H' := Aside0.mk H
            clear H
            have hcz12_0 : w4.cell? ⟨gb123, 0, none⟩ = some (.int .u64 a1_0) := (blk_cell BK123.out 0).trans rfl
            have hcz12_1 : w4.cell? ⟨gb123, 1, none⟩ = some (.int .u64 a1_1) := (blk_cell BK123.out 1).trans rfl
            have hcz12_2 : w4.cell? ⟨gb123, 2, none⟩ = some (.slice A1_2 l1_2.length c1_2) := (blk_cell BK123.out 2).trans rfl
            have hfz12_0 := blk_frozen BK123.out 0
            have hfz12_1 := blk_frozen BK123.out 1
            have hfz12_2 := blk_frozen BK123.out 2
            go_wp2
            repeat (go_quiet (fail); try go_wp2)
            go_meet
            case rel => exact ⟨_, (true), (by first | rfl | (simp; done) | (simp [*]; done)), H', ⟨by first | omega | exact Nat.le_refl _⟩, ⟨by (with_reducible repeat (first | refine blk_drewN ?_ _ | refine blk_drew ?_ | refine blk_alloc ?_ _)); exact BK123.out⟩, ⟨by repeat (first | (with_reducible first | exact HB.out | apply below_alloc | apply pw_below_drewN | apply below_drew1 | refine below_set ?_ GE123.out) | exact HB.out)⟩⟩
          · rw [if_neg c11] at H
            have c11b0 : decide (a1_1 < 2) = false := decide_eq_false c11
            clear c11
            have H' := Aside0.mk H
            clear H
            have hcz13_0 : w4.cell? ⟨gb123, 0, none⟩ = some (.int .u64 a1_0) := (blk_cell BK123.out 0).trans rfl
            have hcz13_1 : w4.cell? ⟨gb123, 1, none⟩ = some (.int .u64 a1_1) := (blk_cell BK123.out 1).trans rfl
            have hcz13_2 : w4.cell? ⟨gb123, 2, none⟩ = some (.slice A1_2 l1_2.length c1_2) := (blk_cell BK123.out 2).trans rfl
            have hfz13_0 := blk_frozen BK123.out 0
            have hfz13_1 := blk_frozen BK123.out 1
            have hfz13_2 := blk_frozen BK123.out 2
            go_wp2
            repeat (go_quiet (fail); try go_wp2)
            go_meet
            case rel => exact ⟨_, (decide (a1_1 ≥ a1_0)), (by first | rfl | (simp; done) | (simp [*]; done)), H', ⟨by first | omega | exact Nat.le_refl _⟩, ⟨by (with_reducible repeat (first | refine blk_drewN ?_ _ | refine blk_drew ?_ | refine blk_alloc ?_ _)); exact BK123.out⟩, ⟨by repeat (first | (with_reducible first | exact HB.out | apply below_alloc | apply pw_below_drewN | apply below_drew1 | refine below_set ?_ GE123.out) | exact HB.out)⟩⟩
  case rest =>
    clear HC3
    try clear c1
    try clear p2
    try clear c3
    try clear c5
    try clear c5b0
    try clear c5b1
    try clear c7
    try clear c7b0
    try clear c9
    try clear c9b0
    try clear c11
    try clear c11b0
    try clear hcz10_0
    try clear hcz10_1
    try clear hcz10_2
    try clear hcz12_0
    try clear hcz12_1
    try clear hcz12_2
    try clear hcz13_0
    try clear hcz13_1
    try clear hcz13_2
    try clear hcz6_0
    try clear hcz6_1
    try clear hcz6_2
    try clear hcz8_0
    try clear hcz8_1
    try clear hcz8_2
    try clear hfz10_0
    try clear hfz10_1
    try clear hfz10_2
    try clear hfz12_0
    try clear hfz12_1
    try clear hfz12_2
    try clear hfz13_0
    try clear hfz13_1
    try clear hfz13_2
    try clear hfz6_0
    try clear hfz6_1
    try clear hfz6_2
    try clear hfz8_0
    try clear hfz8_1
    try clear hfz8_2
    obtain ⟨kq, x31_2, rfl, HA, HJ2, BK123, HB⟩ := hcut
    cases kq with
    | zero => exact absurd HA.out (by simp [proof_right.j0])
    | succ kj2 =>
      have H := HA.out
      clear HA
      simp only [proof_right.j0] at H
      by_cases c14 : x31_2 = true
      · subst c14
        have H1 : (some false) = some r := by rw [if_pos rfl] at H <;> exact H
        clear H
        have H := H1
        clear H1
        obtain rfl := Option.some.inj H
        go_wp2
        repeat (go_quiet (fail); try go_wp2)
        go_ret
        exact ⟨by first | rfl | (simp [errW_none, errW_some] <;> rfl) | (simp [*, errW_none, errW_some] <;> rfl), by repeat (first | (with_reducible first | exact HB.out | apply below_alloc | apply pw_below_drewN | apply below_drew1 | refine below_set ?_ GE123.out) | exact HB.out)⟩
      · replace c14 := Bool.eq_false_iff.mpr c14
        subst c14
        have H1 : (if (l0.length : Int) > 0 then (if 0 ≤ (wrap64 ((l0.length : Int) - 1)) then (if (wrap64 ((l0.length : Int) - 1)) < (l0.length : Int) then (proof_right.j1 kj2 l0 (decide (((rd_T45 l0 (wrap64 ((l0.length : Int) - 1))).f0) ≥ a1_0)) a1_0 a1_1 l1_2) else (none)) else (none)) else (proof_right.j1 kj2 l0 false a1_0 a1_1 l1_2)) = some r := by rw [if_neg (show ¬ (false = true) by decide)] at H <;> exact H
        clear H
        have H := H1
        clear H1
        have HC15 := Aside0.mk H
        clear H
        go_upto_region 4 with (fail)
        repeat (go_quiet (fail); go_upto_region 4 with (fail))
        go_cut [46] (fun v46 wc => ∃ (kq : Nat) (x46_14 : Bool), v46 = .bool x46_14 ∧ Aside0 (proof_right.j1 kq l0 x46_14 a1_0 a1_1 l1_2 = some r) ∧ Aside0 (kq ≤ kj2) ∧ Aside0 (wc.heap[gb123]? = some (.cells #[.int .u64 a1_0, .int .u64 a1_1, (.slice A1_2 l1_2.length c1_2)] 45 (0, 0))) ∧ Aside0 (Below w.heap.size w wc))
        case first =>
          have H := HC15.out
          clear HC15
          by_cases c16 : (l0.length : Int) > 0
          · rw [if_pos c16] at H
            have c16b0 : decide (0 < (l0.length : Int)) = true := decide_eq_true c16
            have c16b1 : decide (0 < l0.length) = true := decide_eq_true (by omega)
            clear c16
            (first | rw [c16b0] | (simp only [i64_w, i32_w]; rw [c16b0]) | skip)
            obtain ⟨ji17, hji17⟩ : ∃ j_ : Int, (wrap64 ((l0.length : Int) - 1)) = j_ := ⟨_, rfl⟩
            replace H : (if 0 ≤ (ji17) then (if (ji17) < (l0.length : Int) then (proof_right.j1 kj2 l0 (decide (((rd_T45 l0 (ji17)).f0) ≥ a1_0)) a1_0 a1_1 l1_2) else (none)) else (none)) = some r := by first | (rw [hji17] at H <;> exact H) | (simp only [hji17] at H ⊢; exact H)
            have hji17w : (IntKind.i64.wrap ((l0.length : Int) - 1)) = ji17 := (i64_w _).trans hji17
            by_cases c18 : 0 ≤ (ji17)
            · rw [if_pos c18] at H
              have c18b0 : decide (0 ≤ (ji17)) = true := decide_eq_true c18
              clear c18
              by_cases c19 : (ji17) < (l0.length : Int)
              · rw [if_pos c19] at H
                have c19b0 : decide ((ji17) < (l0.length : Int)) = true := decide_eq_true c19
                clear c19
                have H' := Aside0.mk H
                clear H
                have p124 : 0 ≤ ((ji17) : Int) := of_decide_eq_true (by first | (with_reducible assumption) | assumption)
                have q124 : (ji17) < (l0.length : Int) := of_decide_eq_true (by first | (with_reducible assumption) | assumption)
                obtain ⟨ad124, A124_2, c124_2, e124, hx124_0, hx124_1, hx124_2, hl124_2, hi124_2⟩ := at_T45 HR0.out (ji17) p124 q124
                cases e124
                replace hx124_0 := (HB.out.cell (World.block_lt_of_cell? w _ hx124_0)).trans hx124_0
                replace hx124_1 := (HB.out.cell (World.block_lt_of_cell? w _ hx124_1)).trans hx124_1
                replace hx124_2 := (HB.out.cell (World.block_lt_of_cell? w _ hx124_2)).trans hx124_2
                have HR124_2 := Aside0.mk hi124_2
                have HC124_2 := Aside0.mk hl124_2
                clear hi124_2 hl124_2
                replace p124 := eq_true p124
                replace q124 := eq_true q124
                have hcz20_0 : wc.cell? ⟨gb123, 0, none⟩ = some (.int .u64 a1_0) := (blk_cell BK123.out 0).trans rfl
                have hcz20_1 : wc.cell? ⟨gb123, 1, none⟩ = some (.int .u64 a1_1) := (blk_cell BK123.out 1).trans rfl
                have hcz20_2 : wc.cell? ⟨gb123, 2, none⟩ = some (.slice A1_2 l1_2.length c1_2) := (blk_cell BK123.out 2).trans rfl
                have hfz20_0 := blk_frozen BK123.out 0
                have hfz20_1 := blk_frozen BK123.out 1
                have hfz20_2 := blk_frozen BK123.out 2
                go_wp2
                repeat (go_quiet (fail); try go_wp2)
                go_meet
                case rel => exact ⟨_, (decide (((rd_T45 l0 (ji17)).f0) ≥ a1_0)), (by first | rfl | (simp; done) | (simp only [← hji17] <;> (first | rfl | simp)) | (simp [*]; done)), H', ⟨by have := HJ2.out; first | omega | exact Nat.le_refl _⟩, ⟨by (with_reducible repeat (first | refine blk_drewN ?_ _ | refine blk_drew ?_ | refine blk_alloc ?_ _)); exact BK123.out⟩, ⟨by repeat (first | (with_reducible first | exact HB.out | apply below_alloc | apply pw_below_drewN | apply below_drew1 | refine below_set ?_ GE123.out) | exact HB.out)⟩⟩
              · rw [if_neg c19] at H
                exact absurd H (by simp)
            · rw [if_neg c18] at H
              exact absurd H (by simp)
          · rw [if_neg c16] at H
            have c16b0 : decide (0 < (l0.length : Int)) = false := decide_eq_false c16
            have c16b1 : decide (0 < l0.length) = false := decide_eq_false (by omega)
            clear c16
            (first | rw [c16b0] | (simp only [i64_w, i32_w]; rw [c16b0]) | skip)
            have H' := Aside0.mk H
            clear H
            go_wp2
            repeat (go_quiet (fail); try go_wp2)
            go_meet
            case rel => exact ⟨_, (false), (by first | rfl | (simp; done) | (simp [*]; done)), H', ⟨by have := HJ2.out; first | omega | exact Nat.le_refl _⟩, ⟨by (with_reducible repeat (first | refine blk_drewN ?_ _ | refine blk_drew ?_ | refine blk_alloc ?_ _)); exact BK123.out⟩, ⟨by repeat (first | (with_reducible first | exact HB.out | apply below_alloc | apply pw_below_drewN | apply below_drew1 | refine below_set ?_ GE123.out) | exact HB.out)⟩⟩
        case rest =>
          clear HC15
          try clear c1
          try clear p1
          try clear q1
          try clear hx1
          try clear p2
          try clear c3
          try clear c5
          try clear c5b0
          try clear c5b1
          try clear p6
          try clear c7
          try clear c7b0
          try clear c9
          try clear c9b0
          try clear c11
          try clear c11b0
          try clear c12
          try clear p12
          try clear q12
          try clear hx12
          try clear c14
          try clear c16
          try clear c16b0
          try clear c16b1
          try clear c18
          try clear c18b0
          try clear c19
          try clear c19b0
          try clear hcz10_0
          try clear hcz10_1
          try clear hcz10_2
          try clear hcz12_0
          try clear hcz12_1
          try clear hcz12_2
          try clear hcz13_0
          try clear hcz13_1
          try clear hcz13_2
          try clear hcz20_0
          try clear hcz20_1
          try clear hcz20_2
          try clear hcz6_0
          try clear hcz6_1
          try clear hcz6_2
          try clear hcz8_0
          try clear hcz8_1
          try clear hcz8_2
          try clear hfz10_0
          try clear hfz10_1
          try clear hfz10_2
          try clear hfz12_0
          try clear hfz12_1
          try clear hfz12_2
          try clear hfz13_0
          try clear hfz13_1
          try clear hfz13_2
          try clear hfz20_0
          try clear hfz20_1
          try clear hfz20_2
          try clear hfz6_0
          try clear hfz6_1
          try clear hfz6_2
          try clear hfz8_0
          try clear hfz8_1
          try clear hfz8_2
          try clear hx124_0
          try clear hx124_1
          try clear hx124_2
          try clear p124
          try clear p2
          try clear q124
          obtain ⟨kq, x46_14, rfl, HA, HJ14, BK123, HB⟩ := hcut
          cases kq with
          | zero => exact absurd HA.out (by simp [proof_right.j1])
          | succ kj14 =>
            have H := HA.out
            clear HA
            simp only [proof_right.j1] at H
            by_cases c21 : x46_14 = true
            · subst c21
              have H1 : (some false) = some r := by rw [if_pos rfl] at H <;> exact H
              clear H
              have H := H1
              clear H1
              obtain rfl := Option.some.inj H
              go_wp2
              repeat (go_quiet (fail); try go_wp2)
              go_ret
              exact ⟨by first | rfl | (simp [errW_none, errW_some] <;> rfl) | (simp [*, errW_none, errW_some] <;> rfl), by repeat (first | (with_reducible first | exact HB.out | apply below_alloc | apply pw_below_drewN | apply below_drew1 | refine below_set ?_ GE123.out) | exact HB.out)⟩
            · replace c21 := Bool.eq_false_iff.mpr c21
              subst c21
              have H1 : ((proof_whole.f kj14 l0 a1_0 a1_1 l1_2).bind fun t125 => (if t125 = true then ((proof_full.f a1_0 a1_1 l1_2).bind fun t126 => (some t126)) else (some false))) = some r := by rw [if_neg (show ¬ (false = true) by decide)] at H <;> exact H
              clear H
              have H := H1
              clear H1
              replace H := Option.bind_eq_some_iff.mp H
              obtain ⟨t125, A220, H⟩ := H
              replace H : (if t125 = true then ((proof_full.f a1_0 a1_1 l1_2).bind fun t126 => (some t126)) else (some false)) = some r := H
              have A22 := Aside0.mk A220
              clear A220
              by_cases c23 : t125 = true
              · subst c23
                have H1 : ((proof_full.f a1_0 a1_1 l1_2).bind fun t126 => (some t126)) = some r := by rw [if_pos rfl] at H <;> exact H
                clear H
                have H := H1
                clear H1
                replace H := Option.bind_eq_some_iff.mp H
                obtain ⟨t126, A240, H⟩ := H
                replace H : (some t126) = some r := H
                have A24 := Aside0.mk A240
                clear A240
                obtain rfl := Option.some.inj H
                have hcz25_0 : wc.cell? ⟨gb123, 0, none⟩ = some (.int .u64 a1_0) := (blk_cell BK123.out 0).trans rfl
                have hcz25_1 : wc.cell? ⟨gb123, 1, none⟩ = some (.int .u64 a1_1) := (blk_cell BK123.out 1).trans rfl
                have hcz25_2 : wc.cell? ⟨gb123, 2, none⟩ = some (.slice A1_2 l1_2.length c1_2) := (blk_cell BK123.out 2).trans rfl
                have hfz25_0 := blk_frozen BK123.out 0
                have hfz25_1 := blk_frozen BK123.out 1
                have hfz25_2 := blk_frozen BK123.out 2
                go_wp2_with (first | (go_at_call 39; (with_reducible refine (proof_whole.calls kj14 _ _ l0 a1_0 a1_1 _ _ l1_2 true _ ?side1 ?side2 ?side3 ?side4 A22.out).mono ?_); (case side1 => repeat (first | exact (Kd.C_below HR0.out HB.out) | (with_reducible refine Kd.C_alloc ?_ _) | (with_reducible refine Kd.C_drewN ?_ _) | (with_reducible refine Kd.C_drew ?_))); (case side2 => exact HC0.out); (case side3 => repeat (first | exact (Kd.C_below HR1_2.out HB.out) | (with_reducible refine Kd.C_alloc ?_ _) | (with_reducible refine Kd.C_drewN ?_ _) | (with_reducible refine Kd.C_drew ?_))); (case side4 => exact HC1_2.out); rintro e w26 ⟨rfl, hb⟩; have n0_ := Aside0.mk (blk_below (g := gb123) (o := .cells #[.int .u64 a1_0, .int .u64 a1_1, .slice A1_2 l1_2.length c1_2] 45 (0, 0)) (by (with_reducible repeat (first | refine blk_drewN ?_ _ | refine blk_drew ?_ | refine blk_alloc ?_ _)); exact BK123.out) hb); have n1_ := Aside0.mk (below_step (by repeat (first | (with_reducible first | exact HB.out | apply below_alloc | apply pw_below_drewN | apply below_drew1 | refine below_set ?_ GE123.out) | exact HB.out)) hb); clear BK123; clear HB; have BK123 := n0_; have HB := n1_; clear n0_ n1_; (try clear hb); (try clear hb2); (try clear hk); (try clear hi); have hcz27_0 : w26.cell? ⟨gb123, 0, none⟩ = some (.int .u64 a1_0) := (blk_cell BK123.out 0).trans rfl; have hcz27_1 : w26.cell? ⟨gb123, 1, none⟩ = some (.int .u64 a1_1) := (blk_cell BK123.out 1).trans rfl; have hcz27_2 : w26.cell? ⟨gb123, 2, none⟩ = some (.slice A1_2 l1_2.length c1_2) := (blk_cell BK123.out 2).trans rfl; have hfz27_0 := blk_frozen BK123.out 0; have hfz27_1 := blk_frozen BK123.out 1; have hfz27_2 := blk_frozen BK123.out 2) | (go_at_call 40; (with_reducible refine (proof_full.calls a1_0 a1_1 _ _ l1_2 t126 _ ?side1 ?side2 A24.out).mono ?_); (case side1 => repeat (first | exact (Kd.C_below HR1_2.out HB.out) | (with_reducible refine Kd.C_alloc ?_ _) | (with_reducible refine Kd.C_drewN ?_ _) | (with_reducible refine Kd.C_drew ?_))); (case side2 => exact HC1_2.out); rintro e w28 ⟨rfl, hb⟩; have n0_ := Aside0.mk (blk_below (g := gb123) (o := .cells #[.int .u64 a1_0, .int .u64 a1_1, .slice A1_2 l1_2.length c1_2] 45 (0, 0)) (by (with_reducible repeat (first | refine blk_drewN ?_ _ | refine blk_drew ?_ | refine blk_alloc ?_ _)); exact BK123.out) hb); have n1_ := Aside0.mk (below_step (by repeat (first | (with_reducible first | exact HB.out | apply below_alloc | apply pw_below_drewN | apply below_drew1 | refine below_set ?_ GE123.out) | exact HB.out)) hb); clear BK123; clear HB; have BK123 := n0_; have HB := n1_; clear n0_ n1_; (try clear hb); (try clear hb2); (try clear hk); (try clear hi)))
                repeat (go_quiet (first | (go_at_call 39; (with_reducible refine (proof_whole.calls kj14 _ _ l0 a1_0 a1_1 _ _ l1_2 true _ ?side1 ?side2 ?side3 ?side4 A22.out).mono ?_); (case side1 => repeat (first | exact (Kd.C_below HR0.out HB.out) | (with_reducible refine Kd.C_alloc ?_ _) | (with_reducible refine Kd.C_drewN ?_ _) | (with_reducible refine Kd.C_drew ?_))); (case side2 => exact HC0.out); (case side3 => repeat (first | exact (Kd.C_below HR1_2.out HB.out) | (with_reducible refine Kd.C_alloc ?_ _) | (with_reducible refine Kd.C_drewN ?_ _) | (with_reducible refine Kd.C_drew ?_))); (case side4 => exact HC1_2.out); rintro e w26 ⟨rfl, hb⟩; have n0_ := Aside0.mk (blk_below (g := gb123) (o := .cells #[.int .u64 a1_0, .int .u64 a1_1, .slice A1_2 l1_2.length c1_2] 45 (0, 0)) (by (with_reducible repeat (first | refine blk_drewN ?_ _ | refine blk_drew ?_ | refine blk_alloc ?_ _)); exact BK123.out) hb); have n1_ := Aside0.mk (below_step (by repeat (first | (with_reducible first | exact HB.out | apply below_alloc | apply pw_below_drewN | apply below_drew1 | refine below_set ?_ GE123.out) | exact HB.out)) hb); clear BK123; clear HB; have BK123 := n0_; have HB := n1_; clear n0_ n1_; (try clear hb); (try clear hb2); (try clear hk); (try clear hi); have hcz27_0 : w26.cell? ⟨gb123, 0, none⟩ = some (.int .u64 a1_0) := (blk_cell BK123.out 0).trans rfl; have hcz27_1 : w26.cell? ⟨gb123, 1, none⟩ = some (.int .u64 a1_1) := (blk_cell BK123.out 1).trans rfl; have hcz27_2 : w26.cell? ⟨gb123, 2, none⟩ = some (.slice A1_2 l1_2.length c1_2) := (blk_cell BK123.out 2).trans rfl; have hfz27_0 := blk_frozen BK123.out 0; have hfz27_1 := blk_frozen BK123.out 1; have hfz27_2 := blk_frozen BK123.out 2) | (go_at_call 40; (with_reducible refine (proof_full.calls a1_0 a1_1 _ _ l1_2 t126 _ ?side1 ?side2 A24.out).mono ?_); (case side1 => repeat (first | exact (Kd.C_below HR1_2.out HB.out) | (with_reducible refine Kd.C_alloc ?_ _) | (with_reducible refine Kd.C_drewN ?_ _) | (with_reducible refine Kd.C_drew ?_))); (case side2 => exact HC1_2.out); rintro e w28 ⟨rfl, hb⟩; have n0_ := Aside0.mk (blk_below (g := gb123) (o := .cells #[.int .u64 a1_0, .int .u64 a1_1, .slice A1_2 l1_2.length c1_2] 45 (0, 0)) (by (with_reducible repeat (first | refine blk_drewN ?_ _ | refine blk_drew ?_ | refine blk_alloc ?_ _)); exact BK123.out) hb); have n1_ := Aside0.mk (below_step (by repeat (first | (with_reducible first | exact HB.out | apply below_alloc | apply pw_below_drewN | apply below_drew1 | refine below_set ?_ GE123.out) | exact HB.out)) hb); clear BK123; clear HB; have BK123 := n0_; have HB := n1_; clear n0_ n1_; (try clear hb); (try clear hb2); (try clear hk); (try clear hi))); try go_wp2_with (first | (go_at_call 39; (with_reducible refine (proof_whole.calls kj14 _ _ l0 a1_0 a1_1 _ _ l1_2 true _ ?side1 ?side2 ?side3 ?side4 A22.out).mono ?_); (case side1 => repeat (first | exact (Kd.C_below HR0.out HB.out) | (with_reducible refine Kd.C_alloc ?_ _) | (with_reducible refine Kd.C_drewN ?_ _) | (with_reducible refine Kd.C_drew ?_))); (case side2 => exact HC0.out); (case side3 => repeat (first | exact (Kd.C_below HR1_2.out HB.out) | (with_reducible refine Kd.C_alloc ?_ _) | (with_reducible refine Kd.C_drewN ?_ _) | (with_reducible refine Kd.C_drew ?_))); (case side4 => exact HC1_2.out); rintro e w26 ⟨rfl, hb⟩; have n0_ := Aside0.mk (blk_below (g := gb123) (o := .cells #[.int .u64 a1_0, .int .u64 a1_1, .slice A1_2 l1_2.length c1_2] 45 (0, 0)) (by (with_reducible repeat (first | refine blk_drewN ?_ _ | refine blk_drew ?_ | refine blk_alloc ?_ _)); exact BK123.out) hb); have n1_ := Aside0.mk (below_step (by repeat (first | (with_reducible first | exact HB.out | apply below_alloc | apply pw_below_drewN | apply below_drew1 | refine below_set ?_ GE123.out) | exact HB.out)) hb); clear BK123; clear HB; have BK123 := n0_; have HB := n1_; clear n0_ n1_; (try clear hb); (try clear hb2); (try clear hk); (try clear hi); have hcz27_0 : w26.cell? ⟨gb123, 0, none⟩ = some (.int .u64 a1_0) := (blk_cell BK123.out 0).trans rfl; have hcz27_1 : w26.cell? ⟨gb123, 1, none⟩ = some (.int .u64 a1_1) := (blk_cell BK123.out 1).trans rfl; have hcz27_2 : w26.cell? ⟨gb123, 2, none⟩ = some (.slice A1_2 l1_2.length c1_2) := (blk_cell BK123.out 2).trans rfl; have hfz27_0 := blk_frozen BK123.out 0; have hfz27_1 := blk_frozen BK123.out 1; have hfz27_2 := blk_frozen BK123.out 2) | (go_at_call 40; (with_reducible refine (proof_full.calls a1_0 a1_1 _ _ l1_2 t126 _ ?side1 ?side2 A24.out).mono ?_); (case side1 => repeat (first | exact (Kd.C_below HR1_2.out HB.out) | (with_reducible refine Kd.C_alloc ?_ _) | (with_reducible refine Kd.C_drewN ?_ _) | (with_reducible refine Kd.C_drew ?_))); (case side2 => exact HC1_2.out); rintro e w28 ⟨rfl, hb⟩; have n0_ := Aside0.mk (blk_below (g := gb123) (o := .cells #[.int .u64 a1_0, .int .u64 a1_1, .slice A1_2 l1_2.length c1_2] 45 (0, 0)) (by (with_reducible repeat (first | refine blk_drewN ?_ _ | refine blk_drew ?_ | refine blk_alloc ?_ _)); exact BK123.out) hb); have n1_ := Aside0.mk (below_step (by repeat (first | (with_reducible first | exact HB.out | apply below_alloc | apply pw_below_drewN | apply below_drew1 | refine below_set ?_ GE123.out) | exact HB.out)) hb); clear BK123; clear HB; have BK123 := n0_; have HB := n1_; clear n0_ n1_; (try clear hb); (try clear hb2); (try clear hk); (try clear hi))))
                go_ret
                exact ⟨by first | rfl | (simp [errW_none, errW_some] <;> rfl) | (simp [*, errW_none, errW_some] <;> rfl), by repeat (first | (with_reducible first | exact HB.out | apply below_alloc | apply pw_below_drewN | apply below_drew1 | refine below_set ?_ GE123.out) | exact HB.out)⟩
              · replace c23 := Bool.eq_false_iff.mpr c23
                subst c23
                have H1 : (some false) = some r := by rw [if_neg (show ¬ (false = true) by decide)] at H <;> exact H
                clear H
                have H := H1
                clear H1
                obtain rfl := Option.some.inj H
                have hcz29_0 : wc.cell? ⟨gb123, 0, none⟩ = some (.int .u64 a1_0) := (blk_cell BK123.out 0).trans rfl
                have hcz29_1 : wc.cell? ⟨gb123, 1, none⟩ = some (.int .u64 a1_1) := (blk_cell BK123.out 1).trans rfl
                have hcz29_2 : wc.cell? ⟨gb123, 2, none⟩ = some (.slice A1_2 l1_2.length c1_2) := (blk_cell BK123.out 2).trans rfl
                have hfz29_0 := blk_frozen BK123.out 0
                have hfz29_1 := blk_frozen BK123.out 1
                have hfz29_2 := blk_frozen BK123.out 2
                go_wp2_with (first | (go_at_call 39; (with_reducible refine (proof_whole.calls kj14 _ _ l0 a1_0 a1_1 _ _ l1_2 false _ ?side1 ?side2 ?side3 ?side4 A22.out).mono ?_); (case side1 => repeat (first | exact (Kd.C_below HR0.out HB.out) | (with_reducible refine Kd.C_alloc ?_ _) | (with_reducible refine Kd.C_drewN ?_ _) | (with_reducible refine Kd.C_drew ?_))); (case side2 => exact HC0.out); (case side3 => repeat (first | exact (Kd.C_below HR1_2.out HB.out) | (with_reducible refine Kd.C_alloc ?_ _) | (with_reducible refine Kd.C_drewN ?_ _) | (with_reducible refine Kd.C_drew ?_))); (case side4 => exact HC1_2.out); rintro e w30 ⟨rfl, hb⟩; have n0_ := Aside0.mk (blk_below (g := gb123) (o := .cells #[.int .u64 a1_0, .int .u64 a1_1, .slice A1_2 l1_2.length c1_2] 45 (0, 0)) (by (with_reducible repeat (first | refine blk_drewN ?_ _ | refine blk_drew ?_ | refine blk_alloc ?_ _)); exact BK123.out) hb); have n1_ := Aside0.mk (below_step (by repeat (first | (with_reducible first | exact HB.out | apply below_alloc | apply pw_below_drewN | apply below_drew1 | refine below_set ?_ GE123.out) | exact HB.out)) hb); clear BK123; clear HB; have BK123 := n0_; have HB := n1_; clear n0_ n1_; (try clear hb); (try clear hb2); (try clear hk); (try clear hi)))
                repeat (go_quiet (first | (go_at_call 39; (with_reducible refine (proof_whole.calls kj14 _ _ l0 a1_0 a1_1 _ _ l1_2 false _ ?side1 ?side2 ?side3 ?side4 A22.out).mono ?_); (case side1 => repeat (first | exact (Kd.C_below HR0.out HB.out) | (with_reducible refine Kd.C_alloc ?_ _) | (with_reducible refine Kd.C_drewN ?_ _) | (with_reducible refine Kd.C_drew ?_))); (case side2 => exact HC0.out); (case side3 => repeat (first | exact (Kd.C_below HR1_2.out HB.out) | (with_reducible refine Kd.C_alloc ?_ _) | (with_reducible refine Kd.C_drewN ?_ _) | (with_reducible refine Kd.C_drew ?_))); (case side4 => exact HC1_2.out); rintro e w30 ⟨rfl, hb⟩; have n0_ := Aside0.mk (blk_below (g := gb123) (o := .cells #[.int .u64 a1_0, .int .u64 a1_1, .slice A1_2 l1_2.length c1_2] 45 (0, 0)) (by (with_reducible repeat (first | refine blk_drewN ?_ _ | refine blk_drew ?_ | refine blk_alloc ?_ _)); exact BK123.out) hb); have n1_ := Aside0.mk (below_step (by repeat (first | (with_reducible first | exact HB.out | apply below_alloc | apply pw_below_drewN | apply below_drew1 | refine below_set ?_ GE123.out) | exact HB.out)) hb); clear BK123; clear HB; have BK123 := n0_; have HB := n1_; clear n0_ n1_; (try clear hb); (try clear hb2); (try clear hk); (try clear hi))); try go_wp2_with (first | (go_at_call 39; (with_reducible refine (proof_whole.calls kj14 _ _ l0 a1_0 a1_1 _ _ l1_2 false _ ?side1 ?side2 ?side3 ?side4 A22.out).mono ?_); (case side1 => repeat (first | exact (Kd.C_below HR0.out HB.out) | (with_reducible refine Kd.C_alloc ?_ _) | (with_reducible refine Kd.C_drewN ?_ _) | (with_reducible refine Kd.C_drew ?_))); (case side2 => exact HC0.out); (case side3 => repeat (first | exact (Kd.C_below HR1_2.out HB.out) | (with_reducible refine Kd.C_alloc ?_ _) | (with_reducible refine Kd.C_drewN ?_ _) | (with_reducible refine Kd.C_drew ?_))); (case side4 => exact HC1_2.out); rintro e w30 ⟨rfl, hb⟩; have n0_ := Aside0.mk (blk_below (g := gb123) (o := .cells #[.int .u64 a1_0, .int .u64 a1_1, .slice A1_2 l1_2.length c1_2] 45 (0, 0)) (by (with_reducible repeat (first | refine blk_drewN ?_ _ | refine blk_drew ?_ | refine blk_alloc ?_ _)); exact BK123.out) hb); have n1_ := Aside0.mk (below_step (by repeat (first | (with_reducible first | exact HB.out | apply below_alloc | apply pw_below_drewN | apply below_drew1 | refine below_set ?_ GE123.out) | exact HB.out)) hb); clear BK123; clear HB; have BK123 := n0_; have HB := n1_; clear n0_ n1_; (try clear hb); (try clear hb2); (try clear hk); (try clear hi))))
                go_ret
                exact ⟨by first | rfl | (simp [errW_none, errW_some] <;> rfl) | (simp [*, errW_none, errW_some] <;> rfl), by repeat (first | (with_reducible first | exact HB.out | apply below_alloc | apply pw_below_drewN | apply below_drew1 | refine below_set ?_ GE123.out) | exact HB.out)⟩
def proof_Check.l0 : Nat → List (S45) → List (S45) → Int → Int → Option (Int × Int)
  | 0, _, _, _, _ => none
  | k + 1, x0, x9, x10, x11 => if x11 < x10 then (if 0 ≤ x11 then (if x11 < (x9.length : Int) then (if x11 ≤ (x0.length : Int) then ((proof_right.f k (x0.take (x11 : Int).toNat) ((rd_T45 x9 x11).f0) ((rd_T45 x9 x11).f1) ((rd_T45 x9 x11).f2)).bind fun t133 => (if t133 = true then (proof_Check.l0 k x0 x9 x10 (wrap64 (x11 + 1))) else (some (x11, 3)))) else (none)) else (none)) else (none)) else (some (0, 0))
def proof_Check.f (k : Nat) (l0 : List (S45)) : Option (Int × Int) := if (l0.length : Int) > 32 then (some (0, 13)) else (proof_Check.l0 k l0 l0 (l0.length : Int) 0)
set_option maxHeartbeats 8000000 in
set_option maxRecDepth 100000 in
theorem proof_Check.calls (k : Nat) (A0 : Option Addr) (c0 : Nat) (l0 : List (S45)) (r1 : Int) (r2 : Int) (w : World) (hr0 : Kd.C k45 w A0 l0.length l0) (hc0 : l0.length ≤ c0) (h : proof_Check.f k l0 = some (r1, r2)) :
    Calls Try.prog 20 #[.slice A0 l0.length c0] w fun e w' => e = .returned (.tuple #[.int .i64 r1, .int .i64 r2]) ∧ Below w.heap.size w w' := by
  have hu45 := Try.underlying45
  have HR0 := Aside0.mk hr0
  have HC0 := Aside0.mk hc0
  clear hr0 hc0
  have HB := Aside0.mk (Below.refl w.heap.size w)
  have H : (if (l0.length : Int) > 32 then (some (0, 13)) else (proof_Check.l0 k l0 l0 (l0.length : Int) 0)) = some (r1, r2) := h
  clear h
  by_cases c2 : (l0.length : Int) > 32
  · rw [if_pos c2] at H
    have c2b0 : decide (32 < (l0.length : Int)) = true := decide_eq_true c2
    have c2b1 : decide (32 < l0.length) = true := decide_eq_true (by omega)
    clear c2
    simp only [Option.some.injEq, Prod.mk.injEq] at H
    obtain ⟨rfl, rfl⟩ := H
    go_enter Try.func20, Try.ntmps20
    go_wp2
    go_ret2
    exact ⟨by first | rfl | (simp [errW_none, errW_some] <;> rfl) | (simp [*, errW_none, errW_some] <;> rfl), by repeat (first | (with_reducible first | exact HB.out | apply below_alloc | apply pw_below_drewN | apply below_drew1) | exact HB.out)⟩
  · rw [if_neg c2] at H
    have c2b0 : decide (32 < (l0.length : Int)) = false := decide_eq_false c2
    have c2b1 : decide (32 < l0.length) = false := decide_eq_false (by omega)
    clear c2
    have H' := Aside0.mk H
    clear H
    go_enter Try.func20, Try.ntmps20
    go_wp2
    go_loopg [11] k (fun kq v11 w' => ∃ (x11_1 : Int), v11 = .int .i64 x11_1 ∧ Aside0 (proof_Check.l0 kq l0 l0 (l0.length : Int) x11_1 = some (r1, r2)) ∧ Aside0 (kq ≤ k) ∧ Aside0 (Below w.heap.size w w'))
    case atStart => exact ⟨(0), (by first | rfl | (simp; done) | (simp [*]; done)), H', ⟨Nat.le_refl _⟩, ⟨by repeat (first | (with_reducible first | exact HB.out | apply below_alloc | apply pw_below_drewN | apply below_drew1) | exact HB.out)⟩⟩
    case round =>
      clear H'
      try clear c2
      try clear c2b0
      try clear c2b1
      try clear p2
      obtain ⟨x11_1, rfl, HA, HK1, HB⟩ := hrel
      cases gk with
      | zero => exact absurd HA.out (by simp [proof_Check.l0])
      | succ k1 =>
        have H := HA.out
        clear HA
        simp only [proof_Check.l0] at H
        by_cases c3 : x11_1 < (l0.length : Int)
        · rw [if_pos c3] at H
          have c3b0 : decide (x11_1 < (l0.length : Int)) = true := decide_eq_true c3
          clear c3
          by_cases c4 : 0 ≤ x11_1
          · rw [if_pos c4] at H
            have c4b0 : decide (0 ≤ x11_1) = true := decide_eq_true c4
            clear c4
            by_cases c5 : x11_1 < (l0.length : Int)
            · rw [if_pos c5] at H
              have c5b0 : decide (x11_1 < (l0.length : Int)) = true := decide_eq_true c5
              clear c5
              have c6b0 := eq_true (of_decide_eq_true (by first | (with_reducible assumption) | assumption) : 0 ≤ x11_1)
              by_cases c7 : x11_1 ≤ (l0.length : Int)
              · rw [if_pos c7] at H
                have c7b0 := eq_true c7
                have c7b1 : decide (x11_1 ≤ (l0.length : Int)) = true := decide_eq_true c7
                clear c7
                obtain ⟨y129, hy129⟩ : ∃ y_ : List (S45), y_ = (l0.take (x11_1 : Int).toNat) := ⟨_, rfl⟩
                replace H : ((proof_right.f k1 y129 ((rd_T45 l0 x11_1).f0) ((rd_T45 l0 x11_1).f1) ((rd_T45 l0 x11_1).f2)).bind fun t133 => (if t133 = true then (proof_Check.l0 k1 l0 l0 (l0.length : Int) (wrap64 (x11_1 + 1))) else (some (x11_1, 3)))) = some (r1, r2) := by first | (rw [hy129]; with_reducible exact H) | (have H2_ := (Option.bind_some _ _).symm.trans H; rw [hy129]; with_reducible exact H2_) | (have H2_ := (Option.bind_some _ _).symm.trans H; with_reducible exact H2_) | with_reducible exact H | (rw [hy129]; exact H) | exact H
                have Ny129 := Aside0.mk hy129
                clear hy129
                replace H := Option.bind_eq_some_iff.mp H
                obtain ⟨t133, A80, H⟩ := H
                replace H : (if t133 = true then (proof_Check.l0 k1 l0 l0 (l0.length : Int) (wrap64 (x11_1 + 1))) else (some (x11_1, 3))) = some (r1, r2) := H
                have A8 := Aside0.mk A80
                clear A80
                by_cases c9 : t133 = true
                · subst c9
                  have H1 : (proof_Check.l0 k1 l0 l0 (l0.length : Int) (wrap64 (x11_1 + 1))) = some (r1, r2) := by rw [if_pos rfl] at H <;> exact H
                  clear H
                  have H := H1
                  clear H1
                  have H' := Aside0.mk H
                  clear H
                  have p127 : 0 ≤ (x11_1 : Int) := of_decide_eq_true (by first | (with_reducible assumption) | assumption)
                  have q127 : x11_1 < (l0.length : Int) := of_decide_eq_true (by first | (with_reducible assumption) | assumption)
                  obtain ⟨ad127, A127_2, c127_2, e127, hx127_0, hx127_1, hx127_2, hl127_2, hi127_2⟩ := at_T45 HR0.out x11_1 p127 q127
                  cases e127
                  replace hx127_0 := (HB.out.cell (World.block_lt_of_cell? w _ hx127_0)).trans hx127_0
                  replace hx127_1 := (HB.out.cell (World.block_lt_of_cell? w _ hx127_1)).trans hx127_1
                  replace hx127_2 := (HB.out.cell (World.block_lt_of_cell? w _ hx127_2)).trans hx127_2
                  have HR127_2 := Aside0.mk hi127_2
                  have HC127_2 := Aside0.mk hl127_2
                  clear hi127_2 hl127_2
                  replace p127 := eq_true p127
                  replace q127 := eq_true q127
                  try go_wp2_with (first | ((with_reducible refine gate_dst (N := 5) rfl ?_); refine box_event ?hg (N := 5) ?hd (cs := #[.int .u64 0, .int .u64 0, .slice none 0 0]) (t := 45) ?hr ?_; (case hd => rfl); (case hg => rfl); (case hr => first | (go_simp; done) | (go_simp; rfl)); intro gb128 hg w10 hbox hb; have n0_ := Aside0.mk (below_step (by repeat (first | (with_reducible first | exact HB.out | apply below_alloc | apply pw_below_drewN | apply below_drew1) | exact HB.out)) hb); have n1_ := Aside0.mk (hbox); have n2_ := Aside0.mk ((by rw [hg]; exact (below_size (by repeat (first | (with_reducible first | exact HB.out | apply below_alloc | apply pw_below_drewN | apply below_drew1) | exact HB.out))) : w.heap.size ≤ gb128)); have n3_ := Aside0.mk ((by rw [hg]; exact (below_size (by repeat (first | (with_reducible first | exact HB.out | apply below_alloc | apply pw_below_drewN | apply below_drew1) | exact HB.out))) : w.heap.size ≤ gb128)); clear HB; have HB := n0_; have BK128 := n1_; have GW128 := n2_; have GE128 := n3_; clear n0_ n1_ n2_ n3_; clear hb hbox hg; have hcz11_0 : w10.cell? ⟨gb128, 0, none⟩ = some (.int .u64 0) := (blk_cell BK128.out 0).trans rfl; have hcz11_1 : w10.cell? ⟨gb128, 1, none⟩ = some (.int .u64 0) := (blk_cell BK128.out 1).trans rfl; have hcz11_2 : w10.cell? ⟨gb128, 2, none⟩ = some (.slice none 0 0) := (blk_cell BK128.out 2).trans rfl; have hfz11_0 := blk_frozen BK128.out 0; have hfz11_1 := blk_frozen BK128.out 1; have hfz11_2 := blk_frozen BK128.out 2))
                  have n0_ : Aside0 ((((w10.setCell ⟨gb128, 0, none⟩ (.int .u64 ((rd_T45 l0 x11_1).f0))).setCell ⟨gb128, 1, none⟩ (.int .u64 ((rd_T45 l0 x11_1).f1))).setCell ⟨gb128, 2, none⟩ (.slice A127_2 ((rd_T45 l0 x11_1).f2).length c127_2)).heap[gb128]? = some (.cells #[.int .u64 ((rd_T45 l0 x11_1).f0), .int .u64 ((rd_T45 l0 x11_1).f1), .slice A127_2 ((rd_T45 l0 x11_1).f2).length c127_2] 45 (0, 0))) := ⟨by (with_reducible repeat (first | refine blk_drewN ?_ _ | refine blk_drew ?_ | refine blk_alloc ?_ _)); refine blk_put (cs := #[.int .u64 ((rd_T45 l0 x11_1).f0), .int .u64 ((rd_T45 l0 x11_1).f1), .slice none 0 0]) ?_ 2 _ rfl; (with_reducible repeat (first | refine blk_drewN ?_ _ | refine blk_drew ?_ | refine blk_alloc ?_ _)); refine blk_put (cs := #[.int .u64 ((rd_T45 l0 x11_1).f0), .int .u64 0, .slice none 0 0]) ?_ 1 _ rfl; (with_reducible repeat (first | refine blk_drewN ?_ _ | refine blk_drew ?_ | refine blk_alloc ?_ _)); refine blk_put (cs := #[.int .u64 0, .int .u64 0, .slice none 0 0]) ?_ 0 _ rfl; (with_reducible repeat (first | refine blk_drewN ?_ _ | refine blk_drew ?_ | refine blk_alloc ?_ _)); exact BK128.out⟩
                  have n1_ : Aside0 (Below w.heap.size w (((w10.setCell ⟨gb128, 0, none⟩ (.int .u64 ((rd_T45 l0 x11_1).f0))).setCell ⟨gb128, 1, none⟩ (.int .u64 ((rd_T45 l0 x11_1).f1))).setCell ⟨gb128, 2, none⟩ (.slice A127_2 ((rd_T45 l0 x11_1).f2).length c127_2))) := ⟨by repeat (first | (with_reducible first | exact HB.out | apply below_alloc | apply pw_below_drewN | apply below_drew1 | refine below_set ?_ GE128.out) | exact HB.out)⟩
                  (try clear BK128)
                  (try clear HB)
                  generalize (((w10.setCell ⟨gb128, 0, none⟩ (.int .u64 ((rd_T45 l0 x11_1).f0))).setCell ⟨gb128, 1, none⟩ (.int .u64 ((rd_T45 l0 x11_1).f1))).setCell ⟨gb128, 2, none⟩ (.slice A127_2 ((rd_T45 l0 x11_1).f2).length c127_2)) = w12 at n0_ n1_ ⊢
                  have BK128 := n0_
                  have HB := n1_
                  clear n0_ n1_
                  have n0_ := Aside0.mk (blk_drew BK128.out)
                  have n1_ := Aside0.mk (below_drew1 HB.out)
                  clear BK128
                  clear HB
                  have BK128 := n0_
                  have HB := n1_
                  clear n0_ n1_
                  have q14 : (x11_1 : Int) ≤ ((l0.length : Int) : Int) := of_decide_eq_true (by first | (with_reducible assumption) | assumption)
                  obtain ⟨i014, hi014, _, hsz14, _⟩ := info_parts info45
                  have hroom14 : l0.length ≤ c0 := HC0.out
                  have hC14 : Kd.C k45 _ (some ad127) l0.length l0 := HR0.out
                  have hcut14 := cut_to (P := Try.prog) 38 45 .i64 Try.underlying38 hi014 (some ad127) l0.length c0 x11_1 (of_decide_eq_true (by first | (with_reducible assumption) | assumption)) q14 hroom14
                  have hr14 := Kd.C_take (m := (x11_1 : Int).toNat) hC14 (by omega)
                  have hy14 : y129.length = (x11_1 : Int).toNat := (by rw [Ny129.out, List.length_take]; omega)
                  rw [← Ny129.out] at hr14
                  rw [← hy14] at hcut14
                  have HR132 := Aside0.mk hr14
                  have HC132 := Aside0.mk (show y129.length ≤ c0 from by omega)
                  clear hr14 hC14 hroom14 hi014 hsz14
                  have KY14 := Aside0.mk hy14
                  clear hy14
                  replace q14 := eq_true q14
                  refine start_ (n := 6) (S := fun w' => w'.cell? ⟨gb128, 0, none⟩ = some (.int .u64 ((rd_T45 l0 x11_1).f0)) ∧ w'.cell? ⟨gb128, 1, none⟩ = some (.int .u64 ((rd_T45 l0 x11_1).f1)) ∧ w'.cell? ⟨gb128, 2, none⟩ = some (.slice A127_2 ((rd_T45 l0 x11_1).f2).length c127_2)) (ds := []) #[false, false, false, false, false, false] (by kernel_rfl) rfl rfl ⟨(blk_cell BK128.out 0).trans rfl, (blk_cell BK128.out 1).trans rfl, (blk_cell BK128.out 2).trans rfl⟩ (fun hHeld => ?_)
                  generalize w12.drew = w13 at BK128 HB HR132 hHeld ⊢
                  refine pure_ (i := 0) (N := some 16) (v := ?_) (a' := ?_) #[true, false, false, false, false, false] rfl rfl (by kernel_rfl) (fun _ _ _ h => h) (Or.inl ⟨by rfl, ?_⟩) ?_ ?_
                  rotate_left
                  · intro w'
                    go_simp
                    with_reducible rfl
                  rotate_left
                  · simp only [Act.put, List.setIfInBounds_toArray, List.set_cons_zero, List.set_cons_succ, i64_w, i32_w]
                    rfl
                  refine pure_ (i := 1) (N := some 17) (v := ?_) (a' := ?_) #[true, true, false, false, false, false] rfl rfl (by kernel_rfl) (fun _ _ _ h => h) (Or.inl ⟨by rfl, ?_⟩) ?_ ?_
                  rotate_left
                  · intro w'
                    go_simp
                    with_reducible rfl
                  rotate_left
                  · simp only [Act.put, List.setIfInBounds_toArray, List.set_cons_zero, List.set_cons_succ, i64_w, i32_w]
                    rfl
                  refine pure_ (i := 2) (N := some 18) (v := ?_) (a' := ?_) #[true, true, true, false, false, false] rfl rfl (by kernel_rfl) (fun _ _ _ h => h) (Or.inl ⟨by rfl, ?_⟩) ?_ ?_
                  rotate_left
                  · intro w'
                    go_simp
                    with_reducible rfl
                  rotate_left
                  · simp only [Act.put, List.setIfInBounds_toArray, List.set_cons_zero, List.set_cons_succ, i64_w, i32_w]
                    rfl
                  refine take_ (i := 3) (N := some 19) (v := ?_) (a' := ?_) #[true, true, true, true, false, false] rfl rfl (by kernel_rfl) (fun _ _ _ h => h) (Or.inl ⟨by rfl, ?_⟩) hHeld ?_ ?_
                  rotate_left
                  · rintro w' ⟨s0, s1, s2⟩
                    go_simp
                    with_reducible rfl
                  rotate_left
                  · simp only [Act.put, List.setIfInBounds_toArray, List.set_cons_zero, List.set_cons_succ, i64_w, i32_w]
                    rfl
                  refine one_ (i := 4) (N := some 20) #[true, true, true, true, true, false] rfl rfl (by kernel_rfl) (by decide) (fun K hK => ?_)
                  refine goes_ Try.func31 (by kernel_rfl) rfl #[.slice (some ad127) y129.length c0, .agg #[.int .u64 ((rd_T45 l0 x11_1).f0), .int .u64 ((rd_T45 l0 x11_1).f1), .slice A127_2 ((rd_T45 l0 x11_1).f2).length c127_2]] (by rfl) rfl rfl (by (try simp only [List.map_toArray, List.map_cons, List.map_nil]); first | done | rfl | (simp only [List.length_drop, List.length_take]; rfl)) ?_
                  with_reducible refine (proof_right.calls k1 _ _ y129 ((rd_T45 l0 x11_1).f0) ((rd_T45 l0 x11_1).f1) _ _ ((rd_T45 l0 x11_1).f2) true _ ?side1 ?side2 ?side3 ?side4 A8.out).mono ?_
                  (case side1 => repeat (first | exact (Kd.C_below HR132.out HB.out) | (with_reducible refine Kd.C_alloc ?_ _) | (with_reducible refine Kd.C_drewN ?_ _) | (with_reducible refine Kd.C_drew ?_)))
                  (case side2 => exact HC132.out)
                  (case side3 => repeat (first | exact (Kd.C_below HR127_2.out HB.out) | (with_reducible refine Kd.C_alloc ?_ _) | (with_reducible refine Kd.C_drewN ?_ _) | (with_reducible refine Kd.C_drew ?_)))
                  (case side4 => exact HC127_2.out)
                  rintro e w15 ⟨rfl, hb⟩
                  refine ⟨_, rfl, ?_⟩
                  have n0_ := Aside0.mk (blk_below (g := gb128) (o := .cells #[.int .u64 ((rd_T45 l0 x11_1).f0), .int .u64 ((rd_T45 l0 x11_1).f1), .slice A127_2 ((rd_T45 l0 x11_1).f2).length c127_2] 45 (0, 0)) (by (with_reducible repeat (first | refine blk_drewN ?_ _ | refine blk_drew ?_ | refine blk_alloc ?_ _)); exact BK128.out) hb)
                  have n1_ := Aside0.mk (below_step (by repeat (first | (with_reducible first | exact HB.out | apply below_alloc | apply pw_below_drewN | apply below_drew1 | refine below_set ?_ GE128.out) | exact HB.out)) hb)
                  clear BK128
                  clear HB
                  have BK128 := n0_
                  have HB := n1_
                  clear n0_ n1_
                  (try clear hb)
                  (try clear hb2)
                  (try clear hk)
                  (try clear hi)
                  refine hK.out _ _ ⟨(blk_cell BK128.out 0).trans rfl, (blk_cell BK128.out 1).trans rfl, (blk_cell BK128.out 2).trans rfl⟩ (fun hHeld => ?_)
                  clear hK K
                  refine norm_ (a' := ?_) ?_ ?_
                  rotate_left
                  · show Act.put _ (some 20) _ = _
                    simp only [Act.put, List.setIfInBounds_toArray, List.set_cons_zero, List.set_cons_succ, i64_w, i32_w]
                    rfl
                  refine pure_ (i := 5) (N := some 21) (v := ?_) (a' := ?_) #[true, true, true, true, true, true] rfl rfl (by kernel_rfl) (fun _ _ _ h => h) (Or.inl ⟨by rfl, ?_⟩) ?_ ?_
                  rotate_left
                  · intro w'
                    go_simp
                    with_reducible rfl
                  rotate_left
                  · simp only [Act.put, List.setIfInBounds_toArray, List.set_cons_zero, List.set_cons_succ, i64_w, i32_w]
                    rfl
                  refine done_ (by kernel_rfl) ?_
                  try go_wp2
                  go_roundg k1
                  case measure => have := HK1.out; omega
                  case rel => exact ⟨(wrap64 (x11_1 + 1)), (by first | rfl | (simp; done) | (simp [*]; done)), H', ⟨by have := HK1.out; omega⟩, ⟨by repeat (first | (with_reducible first | exact HB.out | apply below_alloc | apply pw_below_drewN | apply below_drew1 | refine below_set ?_ GE128.out) | exact HB.out)⟩⟩
                · replace c9 := Bool.eq_false_iff.mpr c9
                  subst c9
                  have H1 : (some (x11_1, 3)) = some (r1, r2) := by rw [if_neg (show ¬ (false = true) by decide)] at H <;> exact H
                  clear H
                  have H := H1
                  clear H1
                  simp only [Option.some.injEq, Prod.mk.injEq] at H
                  obtain ⟨rfl, rfl⟩ := H
                  have p127 : 0 ≤ (x11_1 : Int) := of_decide_eq_true (by first | (with_reducible assumption) | assumption)
                  have q127 : x11_1 < (l0.length : Int) := of_decide_eq_true (by first | (with_reducible assumption) | assumption)
                  obtain ⟨ad127, A127_2, c127_2, e127, hx127_0, hx127_1, hx127_2, hl127_2, hi127_2⟩ := at_T45 HR0.out x11_1 p127 q127
                  cases e127
                  replace hx127_0 := (HB.out.cell (World.block_lt_of_cell? w _ hx127_0)).trans hx127_0
                  replace hx127_1 := (HB.out.cell (World.block_lt_of_cell? w _ hx127_1)).trans hx127_1
                  replace hx127_2 := (HB.out.cell (World.block_lt_of_cell? w _ hx127_2)).trans hx127_2
                  have HR127_2 := Aside0.mk hi127_2
                  have HC127_2 := Aside0.mk hl127_2
                  clear hi127_2 hl127_2
                  replace p127 := eq_true p127
                  replace q127 := eq_true q127
                  try go_wp2_with (first | ((with_reducible refine gate_dst (N := 5) rfl ?_); refine box_event ?hg (N := 5) ?hd (cs := #[.int .u64 0, .int .u64 0, .slice none 0 0]) (t := 45) ?hr ?_; (case hd => rfl); (case hg => rfl); (case hr => first | (go_simp; done) | (go_simp; rfl)); intro gb128 hg w16 hbox hb; have n0_ := Aside0.mk (below_step (by repeat (first | (with_reducible first | exact HB.out | apply below_alloc | apply pw_below_drewN | apply below_drew1) | exact HB.out)) hb); have n1_ := Aside0.mk (hbox); have n2_ := Aside0.mk ((by rw [hg]; exact (below_size (by repeat (first | (with_reducible first | exact HB.out | apply below_alloc | apply pw_below_drewN | apply below_drew1) | exact HB.out))) : w.heap.size ≤ gb128)); have n3_ := Aside0.mk ((by rw [hg]; exact (below_size (by repeat (first | (with_reducible first | exact HB.out | apply below_alloc | apply pw_below_drewN | apply below_drew1) | exact HB.out))) : w.heap.size ≤ gb128)); clear HB; have HB := n0_; have BK128 := n1_; have GW128 := n2_; have GE128 := n3_; clear n0_ n1_ n2_ n3_; clear hb hbox hg; have hcz17_0 : w16.cell? ⟨gb128, 0, none⟩ = some (.int .u64 0) := (blk_cell BK128.out 0).trans rfl; have hcz17_1 : w16.cell? ⟨gb128, 1, none⟩ = some (.int .u64 0) := (blk_cell BK128.out 1).trans rfl; have hcz17_2 : w16.cell? ⟨gb128, 2, none⟩ = some (.slice none 0 0) := (blk_cell BK128.out 2).trans rfl; have hfz17_0 := blk_frozen BK128.out 0; have hfz17_1 := blk_frozen BK128.out 1; have hfz17_2 := blk_frozen BK128.out 2))
                  have n0_ : Aside0 ((((w16.setCell ⟨gb128, 0, none⟩ (.int .u64 ((rd_T45 l0 x11_1).f0))).setCell ⟨gb128, 1, none⟩ (.int .u64 ((rd_T45 l0 x11_1).f1))).setCell ⟨gb128, 2, none⟩ (.slice A127_2 ((rd_T45 l0 x11_1).f2).length c127_2)).heap[gb128]? = some (.cells #[.int .u64 ((rd_T45 l0 x11_1).f0), .int .u64 ((rd_T45 l0 x11_1).f1), .slice A127_2 ((rd_T45 l0 x11_1).f2).length c127_2] 45 (0, 0))) := ⟨by (with_reducible repeat (first | refine blk_drewN ?_ _ | refine blk_drew ?_ | refine blk_alloc ?_ _)); refine blk_put (cs := #[.int .u64 ((rd_T45 l0 x11_1).f0), .int .u64 ((rd_T45 l0 x11_1).f1), .slice none 0 0]) ?_ 2 _ rfl; (with_reducible repeat (first | refine blk_drewN ?_ _ | refine blk_drew ?_ | refine blk_alloc ?_ _)); refine blk_put (cs := #[.int .u64 ((rd_T45 l0 x11_1).f0), .int .u64 0, .slice none 0 0]) ?_ 1 _ rfl; (with_reducible repeat (first | refine blk_drewN ?_ _ | refine blk_drew ?_ | refine blk_alloc ?_ _)); refine blk_put (cs := #[.int .u64 0, .int .u64 0, .slice none 0 0]) ?_ 0 _ rfl; (with_reducible repeat (first | refine blk_drewN ?_ _ | refine blk_drew ?_ | refine blk_alloc ?_ _)); exact BK128.out⟩
                  have n1_ : Aside0 (Below w.heap.size w (((w16.setCell ⟨gb128, 0, none⟩ (.int .u64 ((rd_T45 l0 x11_1).f0))).setCell ⟨gb128, 1, none⟩ (.int .u64 ((rd_T45 l0 x11_1).f1))).setCell ⟨gb128, 2, none⟩ (.slice A127_2 ((rd_T45 l0 x11_1).f2).length c127_2))) := ⟨by repeat (first | (with_reducible first | exact HB.out | apply below_alloc | apply pw_below_drewN | apply below_drew1 | refine below_set ?_ GE128.out) | exact HB.out)⟩
                  (try clear BK128)
                  (try clear HB)
                  generalize (((w16.setCell ⟨gb128, 0, none⟩ (.int .u64 ((rd_T45 l0 x11_1).f0))).setCell ⟨gb128, 1, none⟩ (.int .u64 ((rd_T45 l0 x11_1).f1))).setCell ⟨gb128, 2, none⟩ (.slice A127_2 ((rd_T45 l0 x11_1).f2).length c127_2)) = w18 at n0_ n1_ ⊢
                  have BK128 := n0_
                  have HB := n1_
                  clear n0_ n1_
                  have n0_ := Aside0.mk (blk_drew BK128.out)
                  have n1_ := Aside0.mk (below_drew1 HB.out)
                  clear BK128
                  clear HB
                  have BK128 := n0_
                  have HB := n1_
                  clear n0_ n1_
                  have q20 : (x11_1 : Int) ≤ ((l0.length : Int) : Int) := of_decide_eq_true (by first | (with_reducible assumption) | assumption)
                  obtain ⟨i020, hi020, _, hsz20, _⟩ := info_parts info45
                  have hroom20 : l0.length ≤ c0 := HC0.out
                  have hC20 : Kd.C k45 _ (some ad127) l0.length l0 := HR0.out
                  have hcut20 := cut_to (P := Try.prog) 38 45 .i64 Try.underlying38 hi020 (some ad127) l0.length c0 x11_1 (of_decide_eq_true (by first | (with_reducible assumption) | assumption)) q20 hroom20
                  have hr20 := Kd.C_take (m := (x11_1 : Int).toNat) hC20 (by omega)
                  have hy20 : y129.length = (x11_1 : Int).toNat := (by rw [Ny129.out, List.length_take]; omega)
                  rw [← Ny129.out] at hr20
                  rw [← hy20] at hcut20
                  have HR132 := Aside0.mk hr20
                  have HC132 := Aside0.mk (show y129.length ≤ c0 from by omega)
                  clear hr20 hC20 hroom20 hi020 hsz20
                  have KY20 := Aside0.mk hy20
                  clear hy20
                  replace q20 := eq_true q20
                  refine start_ (n := 6) (S := fun w' => w'.cell? ⟨gb128, 0, none⟩ = some (.int .u64 ((rd_T45 l0 x11_1).f0)) ∧ w'.cell? ⟨gb128, 1, none⟩ = some (.int .u64 ((rd_T45 l0 x11_1).f1)) ∧ w'.cell? ⟨gb128, 2, none⟩ = some (.slice A127_2 ((rd_T45 l0 x11_1).f2).length c127_2)) (ds := []) #[false, false, false, false, false, false] (by kernel_rfl) rfl rfl ⟨(blk_cell BK128.out 0).trans rfl, (blk_cell BK128.out 1).trans rfl, (blk_cell BK128.out 2).trans rfl⟩ (fun hHeld => ?_)
                  generalize w18.drew = w19 at BK128 HB HR132 hHeld ⊢
                  refine pure_ (i := 0) (N := some 16) (v := ?_) (a' := ?_) #[true, false, false, false, false, false] rfl rfl (by kernel_rfl) (fun _ _ _ h => h) (Or.inl ⟨by rfl, ?_⟩) ?_ ?_
                  rotate_left
                  · intro w'
                    go_simp
                    with_reducible rfl
                  rotate_left
                  · simp only [Act.put, List.setIfInBounds_toArray, List.set_cons_zero, List.set_cons_succ, i64_w, i32_w]
                    rfl
                  refine pure_ (i := 1) (N := some 17) (v := ?_) (a' := ?_) #[true, true, false, false, false, false] rfl rfl (by kernel_rfl) (fun _ _ _ h => h) (Or.inl ⟨by rfl, ?_⟩) ?_ ?_
                  rotate_left
                  · intro w'
                    go_simp
                    with_reducible rfl
                  rotate_left
                  · simp only [Act.put, List.setIfInBounds_toArray, List.set_cons_zero, List.set_cons_succ, i64_w, i32_w]
                    rfl
                  refine pure_ (i := 2) (N := some 18) (v := ?_) (a' := ?_) #[true, true, true, false, false, false] rfl rfl (by kernel_rfl) (fun _ _ _ h => h) (Or.inl ⟨by rfl, ?_⟩) ?_ ?_
                  rotate_left
                  · intro w'
                    go_simp
                    with_reducible rfl
                  rotate_left
                  · simp only [Act.put, List.setIfInBounds_toArray, List.set_cons_zero, List.set_cons_succ, i64_w, i32_w]
                    rfl
                  refine take_ (i := 3) (N := some 19) (v := ?_) (a' := ?_) #[true, true, true, true, false, false] rfl rfl (by kernel_rfl) (fun _ _ _ h => h) (Or.inl ⟨by rfl, ?_⟩) hHeld ?_ ?_
                  rotate_left
                  · rintro w' ⟨s0, s1, s2⟩
                    go_simp
                    with_reducible rfl
                  rotate_left
                  · simp only [Act.put, List.setIfInBounds_toArray, List.set_cons_zero, List.set_cons_succ, i64_w, i32_w]
                    rfl
                  refine one_ (i := 4) (N := some 20) #[true, true, true, true, true, false] rfl rfl (by kernel_rfl) (by decide) (fun K hK => ?_)
                  refine goes_ Try.func31 (by kernel_rfl) rfl #[.slice (some ad127) y129.length c0, .agg #[.int .u64 ((rd_T45 l0 x11_1).f0), .int .u64 ((rd_T45 l0 x11_1).f1), .slice A127_2 ((rd_T45 l0 x11_1).f2).length c127_2]] (by rfl) rfl rfl (by (try simp only [List.map_toArray, List.map_cons, List.map_nil]); first | done | rfl | (simp only [List.length_drop, List.length_take]; rfl)) ?_
                  with_reducible refine (proof_right.calls k1 _ _ y129 ((rd_T45 l0 x11_1).f0) ((rd_T45 l0 x11_1).f1) _ _ ((rd_T45 l0 x11_1).f2) false _ ?side1 ?side2 ?side3 ?side4 A8.out).mono ?_
                  (case side1 => repeat (first | exact (Kd.C_below HR132.out HB.out) | (with_reducible refine Kd.C_alloc ?_ _) | (with_reducible refine Kd.C_drewN ?_ _) | (with_reducible refine Kd.C_drew ?_)))
                  (case side2 => exact HC132.out)
                  (case side3 => repeat (first | exact (Kd.C_below HR127_2.out HB.out) | (with_reducible refine Kd.C_alloc ?_ _) | (with_reducible refine Kd.C_drewN ?_ _) | (with_reducible refine Kd.C_drew ?_)))
                  (case side4 => exact HC127_2.out)
                  rintro e w21 ⟨rfl, hb⟩
                  refine ⟨_, rfl, ?_⟩
                  have n0_ := Aside0.mk (blk_below (g := gb128) (o := .cells #[.int .u64 ((rd_T45 l0 x11_1).f0), .int .u64 ((rd_T45 l0 x11_1).f1), .slice A127_2 ((rd_T45 l0 x11_1).f2).length c127_2] 45 (0, 0)) (by (with_reducible repeat (first | refine blk_drewN ?_ _ | refine blk_drew ?_ | refine blk_alloc ?_ _)); exact BK128.out) hb)
                  have n1_ := Aside0.mk (below_step (by repeat (first | (with_reducible first | exact HB.out | apply below_alloc | apply pw_below_drewN | apply below_drew1 | refine below_set ?_ GE128.out) | exact HB.out)) hb)
                  clear BK128
                  clear HB
                  have BK128 := n0_
                  have HB := n1_
                  clear n0_ n1_
                  (try clear hb)
                  (try clear hb2)
                  (try clear hk)
                  (try clear hi)
                  refine hK.out _ _ ⟨(blk_cell BK128.out 0).trans rfl, (blk_cell BK128.out 1).trans rfl, (blk_cell BK128.out 2).trans rfl⟩ (fun hHeld => ?_)
                  clear hK K
                  refine norm_ (a' := ?_) ?_ ?_
                  rotate_left
                  · show Act.put _ (some 20) _ = _
                    simp only [Act.put, List.setIfInBounds_toArray, List.set_cons_zero, List.set_cons_succ, i64_w, i32_w]
                    rfl
                  refine pure_ (i := 5) (N := some 21) (v := ?_) (a' := ?_) #[true, true, true, true, true, true] rfl rfl (by kernel_rfl) (fun _ _ _ h => h) (Or.inl ⟨by rfl, ?_⟩) ?_ ?_
                  rotate_left
                  · intro w'
                    go_simp
                    with_reducible rfl
                  rotate_left
                  · simp only [Act.put, List.setIfInBounds_toArray, List.set_cons_zero, List.set_cons_succ, i64_w, i32_w]
                    rfl
                  refine done_ (by kernel_rfl) ?_
                  try go_wp2
                  go_ret2
                  exact ⟨by first | rfl | (simp [errW_none, errW_some] <;> rfl) | (simp [*, errW_none, errW_some] <;> rfl), by repeat (first | (with_reducible first | exact HB.out | apply below_alloc | apply pw_below_drewN | apply below_drew1 | refine below_set ?_ GE128.out) | exact HB.out)⟩
              · rw [if_neg c7] at H
                exact absurd H (by simp)
            · rw [if_neg c5] at H
              exact absurd H (by simp)
          · rw [if_neg c4] at H
            exact absurd H (by simp)
        · rw [if_neg c3] at H
          have c3b0 : decide (x11_1 < (l0.length : Int)) = false := decide_eq_false c3
          clear c3
          simp only [Option.some.injEq, Prod.mk.injEq] at H
          obtain ⟨rfl, rfl⟩ := H
          go_wp2
          go_ret2
          exact ⟨by first | rfl | (simp [errW_none, errW_some] <;> rfl) | (simp [*, errW_none, errW_some] <;> rfl), by repeat (first | (with_reducible first | exact HB.out | apply below_alloc | apply pw_below_drewN | apply below_drew1) | exact HB.out)⟩
end Go.Proofs.Ytcphlhphdpjnfaa.XT
end
section
namespace Go.Proofs.Ytcphlhphdpjnfaa.XT
open Go.RowKit Go.Proofs.Ytcphlhphdpjnfaa.Given Go.Proofs.Ytcphlhphdpjnfaa.Given05 Go.Proofs.Ytcphlhphdpjnfaa.XS Go.Proofs.Ytcphlhphdpjnfaa.Given04 Go.Proofs.Ytcphlhphdpjnfaa.Row05 Go.Proofs.YtcphlhphdpjnfaaW.PrintWords Go.Proofs.YtcphlhphdpjnfaaW.PrintLast Go.Proofs.YtcphlhphdpjnfaaW.PrintMore
attribute [local go_sem] max2_int min2_int max_two min_two max_three min_three max_four min_four   -- for this text's walks alone
set_option linter.unusedVariables false
set_option linter.unusedSimpArgs false
def proof_Claim.l0 : Nat → Int → List (S45) → Int → Int → Option (Int × Int × (List (S33)) × Bool)
  | 0, _, _, _, _ => none
  | k + 1, x1, x18, x19, x20 => if x20 < x19 then (if 0 ≤ x20 then (if x20 < (x18.length : Int) then (if ((rd_T45 x18 x20).f0) = x1 then ((proof_Power.f ((rd_T45 x18 x20).f2)).bind fun t139 => (some ((rd_T45 x18 x20).f0, (rd_T45 x18 x20).f1, t139, true))) else (proof_Claim.l0 k x1 x18 x19 (wrap64 (x20 + 1)))) else (none)) else (none)) else (some (0, 0, ([] : List (S33)), false))
def proof_Claim.f (k : Nat) (l0 : List (S45)) (a1 : Int) : Option (Int × Int × (List (S33)) × Bool) := (proof_Check.f k l0).bind fun bt135 => (if bt135.2 = 0 then (proof_Claim.l0 k a1 l0 (l0.length : Int) 0) else (some (0, 0, ([] : List (S33)), false)))
def proof_Claim.T8 : Bool × List (List Nat × List Nat) := (true, [([], []), ([0], [0]), ([], []), ([2], [2]), ([], []), ([4], [4]), ([5], [5]), ([1, 3, 6], [1, 3, 6]), ([7, 6, 0, 1, 2, 3, 4, 5, 6, 7], [7]), ([8, 0, 1, 2, 3, 4, 5, 6, 7, 8], [])])
def proof_Claim.B8 : List Nat := [0, 1, 0, 4, 0, 16, 48, 127, 255, 511]
theorem proof_Claim.tab8 : rtab .any (opsOf Try.f21 8) = proof_Claim.T8 := by kernel_rfl
theorem proof_Claim.bits8 : waitsOk proof_Claim.T8.2 proof_Claim.B8 = true := by kernel_rfl
set_option maxHeartbeats 8000000 in
set_option maxRecDepth 100000 in
theorem proof_Claim.calls (k : Nat) (A0 : Option Addr) (c0 : Nat) (l0 : List (S45)) (a1 : Int) (r1 : Int) (r2 : Int) (r3 : List (S33)) (r4 : Bool) (w : World) (hr0 : Kd.C k45 w A0 l0.length l0) (hc0 : l0.length ≤ c0) (h : proof_Claim.f k l0 a1 = some (r1, r2, r3, r4)) :
    Calls Try.prog 21 #[.slice A0 l0.length c0, .int .u64 a1] w fun e w' => ∃ v2_ : Value, e = .returned (.tuple #[.agg #[.int .u64 r1, .int .u64 r2, v2_], .bool r4]) ∧ Kd.R k33 33 w' w.heap.size (fun _ => True) v2_ r3 ∧ Below w.heap.size w w' := by
  have hu45 := Try.underlying45
  have HR0 := Aside0.mk hr0
  have HC0 := Aside0.mk hc0
  clear hr0 hc0
  have HB := Aside0.mk (Below.refl w.heap.size w)
  have H : ((proof_Check.f k l0).bind fun bt135 => (if bt135.2 = 0 then (proof_Claim.l0 k a1 l0 (l0.length : Int) 0) else (some (0, 0, ([] : List (S33)), false)))) = some (r1, r2, r3, r4) := h
  clear h
  replace H := Option.bind_eq_some_iff.mp H
  obtain ⟨⟨t135, t136⟩, A30, H⟩ := H
  replace H : (if t136 = 0 then (proof_Claim.l0 k a1 l0 (l0.length : Int) 0) else (some (0, 0, ([] : List (S33)), false))) = some (r1, r2, r3, r4) := H
  have A3 := Aside0.mk A30
  clear A30
  by_cases c4 : t136 = 0
  · rw [if_pos c4] at H
    have c4b0 : (t136 == 0) = true := beq_iff_eq.mpr c4
    have c4b1 : (t136 != 0) = false := bne_eq_false_iff_eq.mpr c4
    clear c4
    have H' := Aside0.mk H
    clear H
    go_enter Try.func21, Try.ntmps21
    go_wp2_with (first | ((with_reducible refine gate_dst (N := 4) rfl ?_); refine box_event ?hg (N := 4) ?hd (cs := #[.int .u64 0, .int .u64 0, .slice none 0 0]) (t := 45) ?hr ?_; (case hd => rfl); (case hg => rfl); (case hr => first | (go_simp; done) | (go_simp; rfl)); intro gb134 hg w5 hbox hb; have n0_ := Aside0.mk (below_step (by repeat (first | (with_reducible first | exact HB.out | apply below_alloc | apply pw_below_drewN | apply below_drew1) | exact HB.out)) hb); have n1_ := Aside0.mk (hbox); have n2_ := Aside0.mk ((by rw [hg]; exact (below_size (by repeat (first | (with_reducible first | exact HB.out | apply below_alloc | apply pw_below_drewN | apply below_drew1) | exact HB.out))) : w.heap.size ≤ gb134)); have n3_ := Aside0.mk ((by rw [hg]; exact (below_size (by repeat (first | (with_reducible first | exact HB.out | apply below_alloc | apply pw_below_drewN | apply below_drew1) | exact HB.out))) : w.heap.size ≤ gb134)); clear HB; have HB := n0_; have BK134 := n1_; have GW134 := n2_; have GE134 := n3_; clear n0_ n1_ n2_ n3_; clear hb hbox hg) | ((with_reducible refine gate_callee (f := 20) rfl ?_); refine goesL_ (some 12) rfl rfl Try.func20 (by kernel_rfl) rfl #[.slice A0 l0.length c0] rfl (by (try simp only [List.map_toArray, List.map_cons, List.map_nil]); first | done | rfl | (simp only [List.length_drop, List.length_take]; rfl)) ?_; (with_reducible refine (proof_Check.calls k _ _ l0 t135 t136 _ ?side1 ?side2 A3.out).mono ?_); (case side1 => repeat (first | exact (Kd.C_below HR0.out HB.out) | (with_reducible refine Kd.C_alloc ?_ _) | (with_reducible refine Kd.C_drewN ?_ _) | (with_reducible refine Kd.C_drew ?_))); (case side2 => exact HC0.out); rintro e w6 ⟨rfl, hb⟩; refine ⟨_, rfl, ?_⟩; have n0_ := Aside0.mk (blk_below (g := gb134) (o := .cells #[.int .u64 0, .int .u64 0, .slice none 0 0] 45 (0, 0)) (by (with_reducible repeat (first | refine blk_drewN ?_ _ | refine blk_drew ?_ | refine blk_alloc ?_ _)); exact BK134.out) hb); have n1_ := Aside0.mk (below_step (by repeat (first | (with_reducible first | exact HB.out | apply below_alloc | apply pw_below_drewN | apply below_drew1 | refine below_set ?_ GE134.out) | exact HB.out)) hb); clear BK134; clear HB; have BK134 := n0_; have HB := n1_; clear n0_ n1_; (try clear hb); (try clear hb2); (try clear hk); (try clear hi)))
    go_loopg [20] k (fun kq v20 w' => ∃ (x20_1 : Int) (x135000_1 : Int) (x135001_1 : Int), v20 = .int .i64 x20_1 ∧ Aside0 (proof_Claim.l0 kq a1 l0 (l0.length : Int) x20_1 = some (r1, r2, r3, r4)) ∧ Aside0 (kq ≤ k) ∧ Aside0 (w'.heap[gb134]? = some (.cells #[.int .u64 x135000_1, .int .u64 x135001_1, (.slice none 0 0)] 45 (0, 0))) ∧ Aside0 (Below w.heap.size w w'))
    case atStart => exact ⟨(0), (0), (0), (by first | rfl | (simp; done) | (simp [*]; done)), H', ⟨Nat.le_refl _⟩, ⟨by (with_reducible repeat (first | refine blk_drewN ?_ _ | refine blk_drew ?_ | refine blk_alloc ?_ _)); exact BK134.out⟩, ⟨by repeat (first | (with_reducible first | exact HB.out | apply below_alloc | apply pw_below_drewN | apply below_drew1 | refine below_set ?_ GE134.out) | exact HB.out)⟩⟩
    case round =>
      clear H'
      try clear c2
      try clear p2
      try clear c4
      try clear c4b0
      try clear c4b1
      obtain ⟨x20_1, x135000_1, x135001_1, rfl, HA, HK1, BK134, HB⟩ := hrel
      cases gk with
      | zero => exact absurd HA.out (by simp [proof_Claim.l0])
      | succ k1 =>
        have H := HA.out
        clear HA
        simp only [proof_Claim.l0] at H
        by_cases c7 : x20_1 < (l0.length : Int)
        · rw [if_pos c7] at H
          have c7b0 : decide (x20_1 < (l0.length : Int)) = true := decide_eq_true c7
          clear c7
          by_cases c8 : 0 ≤ x20_1
          · rw [if_pos c8] at H
            have c8b0 : decide (0 ≤ x20_1) = true := decide_eq_true c8
            clear c8
            by_cases c9 : x20_1 < (l0.length : Int)
            · rw [if_pos c9] at H
              have c9b0 : decide (x20_1 < (l0.length : Int)) = true := decide_eq_true c9
              clear c9
              by_cases c10 : ((rd_T45 l0 x20_1).f0) = a1
              · rw [if_pos c10] at H
                have c10b0 : (((rd_T45 l0 x20_1).f0) == a1) = true := beq_iff_eq.mpr c10
                have c10b1 : (((rd_T45 l0 x20_1).f0) != a1) = false := bne_eq_false_iff_eq.mpr c10
                clear c10
                replace H := Option.bind_eq_some_iff.mp H
                obtain ⟨t139, A110, H⟩ := H
                replace H : (some ((rd_T45 l0 x20_1).f0, (rd_T45 l0 x20_1).f1, t139, true)) = some (r1, r2, r3, r4) := H
                have A11 := Aside0.mk A110
                clear A110
                simp only [Option.some.injEq, Prod.mk.injEq] at H
                obtain ⟨rfl, rfl, rfl, rfl⟩ := H
                have p137 : 0 ≤ (x20_1 : Int) := of_decide_eq_true (by first | (with_reducible assumption) | assumption)
                have q137 : x20_1 < (l0.length : Int) := of_decide_eq_true (by first | (with_reducible assumption) | assumption)
                obtain ⟨ad137, A137_2, c137_2, e137, hx137_0, hx137_1, hx137_2, hl137_2, hi137_2⟩ := at_T45 HR0.out x20_1 p137 q137
                cases e137
                replace hx137_0 := (HB.out.cell (World.block_lt_of_cell? w _ hx137_0)).trans hx137_0
                replace hx137_1 := (HB.out.cell (World.block_lt_of_cell? w _ hx137_1)).trans hx137_1
                replace hx137_2 := (HB.out.cell (World.block_lt_of_cell? w _ hx137_2)).trans hx137_2
                have HR137_2 := Aside0.mk hi137_2
                have HC137_2 := Aside0.mk hl137_2
                clear hi137_2 hl137_2
                replace p137 := eq_true p137
                replace q137 := eq_true q137
                try go_wp2_with (first | ((with_reducible refine gate_dst (N := 9) rfl ?_); refine box_event ?hg (N := 9) ?hd (cs := #[.int .u64 0, .int .u64 0, .slice none 0 0]) (t := 45) ?hr ?_; (case hd => rfl); (case hg => rfl); (case hr => first | (go_simp; done) | (go_simp; rfl)); intro gb138 hg w12 hbox hb; have n0_ := Aside0.mk (blk_below (g := gb134) (o := .cells #[.int .u64 x135000_1, .int .u64 x135001_1, .slice none 0 0] 45 (0, 0)) (by (with_reducible repeat (first | refine blk_drewN ?_ _ | refine blk_drew ?_ | refine blk_alloc ?_ _)); exact BK134.out) hb); have n1_ := Aside0.mk (below_step (by repeat (first | (with_reducible first | exact HB.out | apply below_alloc | apply pw_below_drewN | apply below_drew1 | refine below_set ?_ GE134.out) | exact HB.out)) hb); have n2_ := Aside0.mk (hbox); have n3_ := Aside0.mk ((by rw [hg]; exact (below_size (by repeat (first | (with_reducible first | exact HB.out | apply below_alloc | apply pw_below_drewN | apply below_drew1 | refine below_set ?_ GE134.out) | exact HB.out))) : w.heap.size ≤ gb138)); have n4_ := Aside0.mk ((by rw [hg]; exact (below_size (by repeat (first | (with_reducible first | exact HB.out | apply below_alloc | apply pw_below_drewN | apply below_drew1 | refine below_set ?_ GE134.out) | exact HB.out))) : w.heap.size ≤ gb138)); have n5_ := Aside0.mk ((by rw [hg]; exact Nat.ne_of_lt (blk_lt (g := gb134) (o := .cells #[.int .u64 x135000_1, .int .u64 x135001_1, .slice none 0 0] 45 (0, 0)) (by (with_reducible repeat (first | refine blk_drewN ?_ _ | refine blk_drew ?_ | refine blk_alloc ?_ _)); exact BK134.out)) : gb134 ≠ gb138)); have n6_ := Aside0.mk ((by rw [hg]; exact Nat.ne_of_gt (blk_lt (g := gb134) (o := .cells #[.int .u64 x135000_1, .int .u64 x135001_1, .slice none 0 0] 45 (0, 0)) (by (with_reducible repeat (first | refine blk_drewN ?_ _ | refine blk_drew ?_ | refine blk_alloc ?_ _)); exact BK134.out)) : gb138 ≠ gb134)); clear BK134; clear HB; have BK134 := n0_; have HB := n1_; have BK138 := n2_; have GW138 := n3_; have GE138 := n4_; have NB134_138 := n5_; have NB138_134 := n6_; clear n0_ n1_ n2_ n3_ n4_ n5_ n6_; clear hb hbox hg; have hnb13 := NB138_134.out; have hnc13 := NB134_138.out; have hcz14_0 : w12.cell? ⟨gb138, 0, none⟩ = some (.int .u64 0) := (blk_cell BK138.out 0).trans rfl; have hcz14_1 : w12.cell? ⟨gb138, 1, none⟩ = some (.int .u64 0) := (blk_cell BK138.out 1).trans rfl; have hcz14_2 : w12.cell? ⟨gb138, 2, none⟩ = some (.slice none 0 0) := (blk_cell BK138.out 2).trans rfl; have hfz14_0 := blk_frozen BK138.out 0; have hfz14_1 := blk_frozen BK138.out 1; have hfz14_2 := blk_frozen BK138.out 2))
                have n0_ : Aside0 ((((w12.setCell ⟨gb138, 0, none⟩ (.int .u64 ((rd_T45 l0 x20_1).f0))).setCell ⟨gb138, 1, none⟩ (.int .u64 ((rd_T45 l0 x20_1).f1))).setCell ⟨gb138, 2, none⟩ (.slice A137_2 ((rd_T45 l0 x20_1).f2).length c137_2)).heap[gb134]? = some (.cells #[.int .u64 x135000_1, .int .u64 x135001_1, .slice none 0 0] 45 (0, 0))) := ⟨by (with_reducible repeat (first | refine blk_drewN ?_ _ | refine blk_drew ?_ | refine blk_alloc ?_ _)); refine blk_far ?_ NB134_138.out _; (with_reducible repeat (first | refine blk_drewN ?_ _ | refine blk_drew ?_ | refine blk_alloc ?_ _)); refine blk_far ?_ NB134_138.out _; (with_reducible repeat (first | refine blk_drewN ?_ _ | refine blk_drew ?_ | refine blk_alloc ?_ _)); refine blk_far ?_ NB134_138.out _; (with_reducible repeat (first | refine blk_drewN ?_ _ | refine blk_drew ?_ | refine blk_alloc ?_ _)); exact BK134.out⟩
                have n1_ : Aside0 ((((w12.setCell ⟨gb138, 0, none⟩ (.int .u64 ((rd_T45 l0 x20_1).f0))).setCell ⟨gb138, 1, none⟩ (.int .u64 ((rd_T45 l0 x20_1).f1))).setCell ⟨gb138, 2, none⟩ (.slice A137_2 ((rd_T45 l0 x20_1).f2).length c137_2)).heap[gb138]? = some (.cells #[.int .u64 ((rd_T45 l0 x20_1).f0), .int .u64 ((rd_T45 l0 x20_1).f1), .slice A137_2 ((rd_T45 l0 x20_1).f2).length c137_2] 45 (0, 0))) := ⟨by (with_reducible repeat (first | refine blk_drewN ?_ _ | refine blk_drew ?_ | refine blk_alloc ?_ _)); refine blk_put (cs := #[.int .u64 ((rd_T45 l0 x20_1).f0), .int .u64 ((rd_T45 l0 x20_1).f1), .slice none 0 0]) ?_ 2 _ rfl; (with_reducible repeat (first | refine blk_drewN ?_ _ | refine blk_drew ?_ | refine blk_alloc ?_ _)); refine blk_put (cs := #[.int .u64 ((rd_T45 l0 x20_1).f0), .int .u64 0, .slice none 0 0]) ?_ 1 _ rfl; (with_reducible repeat (first | refine blk_drewN ?_ _ | refine blk_drew ?_ | refine blk_alloc ?_ _)); refine blk_put (cs := #[.int .u64 0, .int .u64 0, .slice none 0 0]) ?_ 0 _ rfl; (with_reducible repeat (first | refine blk_drewN ?_ _ | refine blk_drew ?_ | refine blk_alloc ?_ _)); exact BK138.out⟩
                have n2_ : Aside0 (Below w.heap.size w (((w12.setCell ⟨gb138, 0, none⟩ (.int .u64 ((rd_T45 l0 x20_1).f0))).setCell ⟨gb138, 1, none⟩ (.int .u64 ((rd_T45 l0 x20_1).f1))).setCell ⟨gb138, 2, none⟩ (.slice A137_2 ((rd_T45 l0 x20_1).f2).length c137_2))) := ⟨by repeat (first | (with_reducible first | exact HB.out | apply below_alloc | apply pw_below_drewN | apply below_drew1 | refine below_set ?_ GE134.out | refine below_set ?_ GE138.out) | exact HB.out)⟩
                (try clear BK134)
                (try clear BK138)
                (try clear HB)
                generalize (((w12.setCell ⟨gb138, 0, none⟩ (.int .u64 ((rd_T45 l0 x20_1).f0))).setCell ⟨gb138, 1, none⟩ (.int .u64 ((rd_T45 l0 x20_1).f1))).setCell ⟨gb138, 2, none⟩ (.slice A137_2 ((rd_T45 l0 x20_1).f2).length c137_2)) = w15 at n0_ n1_ n2_ ⊢
                have BK134 := n0_
                have BK138 := n1_
                have HB := n2_
                clear n0_ n1_ n2_
                have n0_ := Aside0.mk (blk_drew BK134.out)
                have n1_ := Aside0.mk (blk_drew BK138.out)
                have n2_ := Aside0.mk (below_drew1 HB.out)
                clear BK134
                clear BK138
                clear HB
                have BK134 := n0_
                have BK138 := n1_
                have HB := n2_
                clear n0_ n1_ n2_
                refine start_ (n := 10) (S := fun w' => w'.cell? ⟨gb138, 0, none⟩ = some (.int .u64 ((rd_T45 l0 x20_1).f0)) ∧ w'.cell? ⟨gb138, 1, none⟩ = some (.int .u64 ((rd_T45 l0 x20_1).f1)) ∧ w'.cell? ⟨gb138, 2, none⟩ = some (.slice A137_2 ((rd_T45 l0 x20_1).f2).length c137_2)) (ds := []) #[false, false, false, false, false, false, false, false, false, false] (by kernel_rfl) rfl rfl ⟨(blk_cell BK138.out 0).trans rfl, (blk_cell BK138.out 1).trans rfl, (blk_cell BK138.out 2).trans rfl⟩ (fun hHeld => ?_); refine with_tabW proof_Claim.tab8 proof_Claim.bits8 (fun HT_ HW_ => ?_)
                generalize w15.drew = w16 at BK134 BK138 HB hHeld ⊢
                refine pure_ (i := 0) (N := some 28) (v := ?_) (a' := ?_) #[true, false, false, false, false, false, false, false, false, false] rfl rfl (any_of HT_.out (by kernel_rfl)) (fun _ _ _ h => h) (Or.inl ⟨by rfl, ?_⟩) ?_ ?_
                rotate_left
                · intro w'
                  go_simp
                  with_reducible rfl
                rotate_left
                · simp only [Act.put, List.setIfInBounds_toArray, List.set_cons_zero, List.set_cons_succ, i64_w, i32_w]
                  rfl
                refine pure_ (i := 2) (N := some 30) (v := ?_) (a' := ?_) #[true, false, true, false, false, false, false, false, false, false] rfl rfl (any_of HT_.out (by kernel_rfl)) (fun _ _ _ h => h) (Or.inl ⟨by rfl, ?_⟩) ?_ ?_
                rotate_left
                · intro w'
                  go_simp
                  with_reducible rfl
                rotate_left
                · simp only [Act.put, List.setIfInBounds_toArray, List.set_cons_zero, List.set_cons_succ, i64_w, i32_w]
                  rfl
                refine pure_ (i := 4) (N := some 32) (v := ?_) (a' := ?_) #[true, false, true, false, true, false, false, false, false, false] rfl rfl (any_of HT_.out (by kernel_rfl)) (fun _ _ _ h => h) (Or.inl ⟨by rfl, ?_⟩) ?_ ?_
                rotate_left
                · intro w'
                  go_simp
                  with_reducible rfl
                rotate_left
                · simp only [Act.put, List.setIfInBounds_toArray, List.set_cons_zero, List.set_cons_succ, i64_w, i32_w]
                  rfl
                refine take_ (i := 1) (N := some 29) (v := ?_) (a' := ?_) #[true, true, true, false, true, false, false, false, false, false] rfl rfl (take_ofW HT_.out HW_.out (by kernel_rfl)) (fun _ _ _ h => h) (Or.inl ⟨by rfl, ?_⟩) hHeld ?_ ?_
                rotate_left
                · rintro w' ⟨s0, s1, s2⟩
                  go_simp
                  with_reducible rfl
                rotate_left
                · simp only [Act.put, List.setIfInBounds_toArray, List.set_cons_zero, List.set_cons_succ, i64_w, i32_w]
                  rfl
                refine take_ (i := 3) (N := some 31) (v := ?_) (a' := ?_) #[true, true, true, true, true, false, false, false, false, false] rfl rfl (take_ofW HT_.out HW_.out (by kernel_rfl)) (fun _ _ _ h => h) (Or.inl ⟨by rfl, ?_⟩) hHeld ?_ ?_
                rotate_left
                · rintro w' ⟨s0, s1, s2⟩
                  go_simp
                  with_reducible rfl
                rotate_left
                · simp only [Act.put, List.setIfInBounds_toArray, List.set_cons_zero, List.set_cons_succ, i64_w, i32_w]
                  rfl
                refine take_ (i := 5) (N := some 33) (v := ?_) (a' := ?_) #[true, true, true, true, true, true, false, false, false, false] rfl rfl (take_ofW HT_.out HW_.out (by kernel_rfl)) (fun _ _ _ h => h) (Or.inl ⟨by rfl, ?_⟩) hHeld ?_ ?_
                rotate_left
                · rintro w' ⟨s0, s1, s2⟩
                  go_simp
                  with_reducible rfl
                rotate_left
                · simp only [Act.put, List.setIfInBounds_toArray, List.set_cons_zero, List.set_cons_succ, i64_w, i32_w]
                  rfl
                refine one_ (i := 6) (N := some 34) #[true, true, true, true, true, true, true, false, false, false] rfl rfl (one_of HT_.out (by kernel_rfl)) (by decide) (fun K hK => ?_)
                refine goes_ Try.func32 (by kernel_rfl) rfl #[.slice A137_2 ((rd_T45 l0 x20_1).f2).length c137_2] (by rfl) rfl rfl (by (try simp only [List.map_toArray, List.map_cons, List.map_nil]); first | done | rfl | (simp only [List.length_drop, List.length_take]; rfl)) ?_
                with_reducible refine (proof_Power.calls _ _ ((rd_T45 l0 x20_1).f2) t139 _ ?side1 ?side2 A11.out).mono ?_
                (case side1 => repeat (first | exact (Kd.C_below HR137_2.out HB.out) | (with_reducible refine Kd.C_alloc ?_ _) | (with_reducible refine Kd.C_drewN ?_ _) | (with_reducible refine Kd.C_drew ?_)))
                (case side2 => exact HC137_2.out)
                rintro e w17 ⟨v140, rfl, ho0, hb⟩
                refine ⟨_, rfl, ?_⟩
                have n0_ := Aside0.mk (Kd.R_lower ho0 (below_size (by repeat (first | (with_reducible first | exact HB.out | apply below_alloc | apply pw_below_drewN | apply below_drew1 | refine below_set ?_ GE134.out | refine below_set ?_ GE138.out) | exact HB.out))))
                have n1_ := Aside0.mk (blk_below (g := gb134) (o := .cells #[.int .u64 x135000_1, .int .u64 x135001_1, .slice none 0 0] 45 (0, 0)) (by (with_reducible repeat (first | refine blk_drewN ?_ _ | refine blk_drew ?_ | refine blk_alloc ?_ _)); exact BK134.out) hb)
                have n2_ := Aside0.mk (blk_below (g := gb138) (o := .cells #[.int .u64 ((rd_T45 l0 x20_1).f0), .int .u64 ((rd_T45 l0 x20_1).f1), .slice A137_2 ((rd_T45 l0 x20_1).f2).length c137_2] 45 (0, 0)) (by (with_reducible repeat (first | refine blk_drewN ?_ _ | refine blk_drew ?_ | refine blk_alloc ?_ _)); exact BK138.out) hb)
                have n3_ := Aside0.mk (below_step (by repeat (first | (with_reducible first | exact HB.out | apply below_alloc | apply pw_below_drewN | apply below_drew1 | refine below_set ?_ GE134.out | refine below_set ?_ GE138.out) | exact HB.out)) hb)
                clear BK134
                clear BK138
                clear HB
                have HO141 := n0_
                have BK134 := n1_
                have BK138 := n2_
                have HB := n3_
                clear n0_ n1_ n2_ n3_
                (try clear hb)
                (try clear hb2)
                (try clear hk)
                (try clear hi)
                (try clear ho0)
                obtain ⟨Ao18, co18, eo18⟩ := Kd.R_slice HO141.out
                (first | subst eo18 | (injection eo18 with f1_ f2_ f3_; have f4_ := f1_.symm; have f5_ := f3_.symm; clear f1_ f2_ f3_; subst f4_; subst f5_))
                refine hK.out _ _ ⟨(blk_cell BK138.out 0).trans rfl, (blk_cell BK138.out 1).trans rfl, (blk_cell BK138.out 2).trans rfl⟩ (fun hHeld => ?_)
                clear hK K
                refine norm_ (a' := ?_) ?_ ?_
                rotate_left
                · show Act.put _ (some 34) _ = _
                  simp only [Act.put, List.setIfInBounds_toArray, List.set_cons_zero, List.set_cons_succ, i64_w, i32_w]
                  rfl
                refine pure_ (i := 7) (N := some 35) (v := ?_) (a' := ?_) #[true, true, true, true, true, true, true, true, false, false] rfl rfl (any_of HT_.out (by kernel_rfl)) (fun _ _ _ h => h) (Or.inl ⟨by rfl, ?_⟩) ?_ ?_
                rotate_left
                · intro w'
                  go_simp
                  with_reducible rfl
                rotate_left
                · simp only [Act.put, List.setIfInBounds_toArray, List.set_cons_zero, List.set_cons_succ, i64_w, i32_w]
                  rfl
                refine one_ (i := 8) (N := none) #[true, true, true, true, true, true, true, true, true, false] rfl rfl (one_of HT_.out (by kernel_rfl)) (by decide) (fun K hK => ?_)
                have hs19 : w17.cell? ⟨gb134, 0, none⟩ = some (.int .u64 x135000_1) := (blk_cell BK134.out 0).trans rfl
                have hfs19 := blk_frozen BK134.out 0
                have hns19_1 := NB138_134.out
                have hms19_1 := NB134_138.out
                have hs20 : w17.cell? ⟨gb134, 1, none⟩ = some (.int .u64 x135001_1) := (blk_cell BK134.out 1).trans rfl
                have hfs20 := blk_frozen BK134.out 1
                have hns20_1 := NB138_134.out
                have hms20_1 := NB134_138.out
                have hs21 : w17.cell? ⟨gb134, 2, none⟩ = some (.slice none 0 0) := (blk_cell BK134.out 2).trans rfl
                have hfs21 := blk_frozen BK134.out 2
                have hns21_1 := NB138_134.out
                have hms21_1 := NB134_138.out
                refine skip_ (w1 := ?_) (by rfl) rfl ?_ ?_
                rotate_left
                · go_simp
                  rfl
                refine hK.out _ _ ⟨((cell_far (p := ⟨gb134, _, none⟩) NB138_134.out _).trans (((cell_far (p := ⟨gb134, _, none⟩) NB138_134.out _).trans (((cell_far (p := ⟨gb134, _, none⟩) NB138_134.out _).trans (hHeld.1)))))), ((cell_far (p := ⟨gb134, _, none⟩) NB138_134.out _).trans (((cell_far (p := ⟨gb134, _, none⟩) NB138_134.out _).trans (((cell_far (p := ⟨gb134, _, none⟩) NB138_134.out _).trans (hHeld.2.1)))))), ((cell_far (p := ⟨gb134, _, none⟩) NB138_134.out _).trans (((cell_far (p := ⟨gb134, _, none⟩) NB138_134.out _).trans (((cell_far (p := ⟨gb134, _, none⟩) NB138_134.out _).trans (hHeld.2.2))))))⟩ (fun hHeld => ?_)
                clear hK K
                refine pure_ (i := 9) (N := some 5) (v := ?_) (a' := ?_) #[true, true, true, true, true, true, true, true, true, true] rfl rfl (any_of HT_.out (by kernel_rfl)) (fun _ _ _ h => h) (Or.inl ⟨by rfl, ?_⟩) ?_ ?_
                rotate_left
                · intro w'
                  go_simp
                  with_reducible rfl
                rotate_left
                · simp only [Act.put, List.setIfInBounds_toArray, List.set_cons_zero, List.set_cons_succ, i64_w, i32_w]
                  rfl
                refine done_ (done_of HT_.out (by kernel_rfl)) ?_
                try go_wp2
                refine bodyPost_ret (results_ct rfl _ _ gb134 45 #[.int .u64 ((rd_T45 l0 x20_1).f0), .int .u64 ((rd_T45 l0 x20_1).f1), .slice Ao18 t139.length co18] (0, 0) _ rfl (by (with_reducible repeat (first | refine blk_drewN ?_ _ | refine blk_drew ?_ | refine blk_alloc ?_ _)); refine blk_put (cs := #[.int .u64 ((rd_T45 l0 x20_1).f0), .int .u64 ((rd_T45 l0 x20_1).f1), .slice none 0 0]) ?_ 2 _ rfl; (with_reducible repeat (first | refine blk_drewN ?_ _ | refine blk_drew ?_ | refine blk_alloc ?_ _)); refine blk_put (cs := #[.int .u64 ((rd_T45 l0 x20_1).f0), .int .u64 x135001_1, .slice none 0 0]) ?_ 1 _ rfl; (with_reducible repeat (first | refine blk_drewN ?_ _ | refine blk_drew ?_ | refine blk_alloc ?_ _)); refine blk_put (cs := #[.int .u64 x135000_1, .int .u64 x135001_1, .slice none 0 0]) ?_ 0 _ rfl; (with_reducible repeat (first | refine blk_drewN ?_ _ | refine blk_drew ?_ | refine blk_alloc ?_ _)); exact BK134.out) Try.underlying45 rfl (by kernel_rfl)) rfl ?_
                exact ⟨_, by first | rfl | (simp [errW_none, errW_some] <;> rfl) | (simp [*, errW_none, errW_some] <;> rfl), by (with_reducible repeat (first | apply Kd.R_alloc | apply Kd.R_drewN | apply Kd.R_drew)); exact Kd.R_mono (Kd.R_far (p := ⟨gb134, 2, none⟩) (Kd.R_far (p := ⟨gb134, 1, none⟩) (Kd.R_far (p := ⟨gb134, 0, none⟩) (Kd.R_types HO141.out BK134.out (by decide)) (fun _ hk => hk.2) (.int .u64 ((rd_T45 l0 x20_1).f0))) (fun _ hk => hk.2) (.int .u64 ((rd_T45 l0 x20_1).f1))) (fun _ hk => hk.2) (.slice Ao18 t139.length co18)) (fun _ hk => trivial), by repeat (first | (with_reducible first | exact HB.out | apply below_alloc | apply pw_below_drewN | apply below_drew1 | refine below_set ?_ GE134.out | refine below_set ?_ GE138.out) | exact HB.out)⟩
              · rw [if_neg c10] at H
                have c10b0 : (((rd_T45 l0 x20_1).f0) == a1) = false := beq_eq_false_iff_ne.mpr c10
                have c10b1 : (((rd_T45 l0 x20_1).f0) != a1) = true := bne_iff_ne.mpr c10
                have H' := Aside0.mk H
                clear H
                have p137 : 0 ≤ (x20_1 : Int) := of_decide_eq_true (by first | (with_reducible assumption) | assumption)
                have q137 : x20_1 < (l0.length : Int) := of_decide_eq_true (by first | (with_reducible assumption) | assumption)
                obtain ⟨ad137, A137_2, c137_2, e137, hx137_0, hx137_1, hx137_2, hl137_2, hi137_2⟩ := at_T45 HR0.out x20_1 p137 q137
                cases e137
                replace hx137_0 := (HB.out.cell (World.block_lt_of_cell? w _ hx137_0)).trans hx137_0
                replace hx137_1 := (HB.out.cell (World.block_lt_of_cell? w _ hx137_1)).trans hx137_1
                replace hx137_2 := (HB.out.cell (World.block_lt_of_cell? w _ hx137_2)).trans hx137_2
                have HR137_2 := Aside0.mk hi137_2
                have HC137_2 := Aside0.mk hl137_2
                clear hi137_2 hl137_2
                replace p137 := eq_true p137
                replace q137 := eq_true q137
                go_wp2_with (first | ((with_reducible refine gate_dst (N := 9) rfl ?_); refine box_event ?hg (N := 9) ?hd (cs := #[.int .u64 0, .int .u64 0, .slice none 0 0]) (t := 45) ?hr ?_; (case hd => rfl); (case hg => rfl); (case hr => first | (go_simp; done) | (go_simp; rfl)); intro gb138 hg w22 hbox hb; have n0_ := Aside0.mk (blk_below (g := gb134) (o := .cells #[.int .u64 x135000_1, .int .u64 x135001_1, .slice none 0 0] 45 (0, 0)) (by (with_reducible repeat (first | refine blk_drewN ?_ _ | refine blk_drew ?_ | refine blk_alloc ?_ _)); exact BK134.out) hb); have n1_ := Aside0.mk (below_step (by repeat (first | (with_reducible first | exact HB.out | apply below_alloc | apply pw_below_drewN | apply below_drew1 | refine below_set ?_ GE134.out) | exact HB.out)) hb); have n2_ := Aside0.mk (hbox); have n3_ := Aside0.mk ((by rw [hg]; exact (below_size (by repeat (first | (with_reducible first | exact HB.out | apply below_alloc | apply pw_below_drewN | apply below_drew1 | refine below_set ?_ GE134.out) | exact HB.out))) : w.heap.size ≤ gb138)); have n4_ := Aside0.mk ((by rw [hg]; exact (below_size (by repeat (first | (with_reducible first | exact HB.out | apply below_alloc | apply pw_below_drewN | apply below_drew1 | refine below_set ?_ GE134.out) | exact HB.out))) : w.heap.size ≤ gb138)); have n5_ := Aside0.mk ((by rw [hg]; exact Nat.ne_of_lt (blk_lt (g := gb134) (o := .cells #[.int .u64 x135000_1, .int .u64 x135001_1, .slice none 0 0] 45 (0, 0)) (by (with_reducible repeat (first | refine blk_drewN ?_ _ | refine blk_drew ?_ | refine blk_alloc ?_ _)); exact BK134.out)) : gb134 ≠ gb138)); have n6_ := Aside0.mk ((by rw [hg]; exact Nat.ne_of_gt (blk_lt (g := gb134) (o := .cells #[.int .u64 x135000_1, .int .u64 x135001_1, .slice none 0 0] 45 (0, 0)) (by (with_reducible repeat (first | refine blk_drewN ?_ _ | refine blk_drew ?_ | refine blk_alloc ?_ _)); exact BK134.out)) : gb138 ≠ gb134)); clear BK134; clear HB; have BK134 := n0_; have HB := n1_; have BK138 := n2_; have GW138 := n3_; have GE138 := n4_; have NB134_138 := n5_; have NB138_134 := n6_; clear n0_ n1_ n2_ n3_ n4_ n5_ n6_; clear hb hbox hg; have hnb23 := NB138_134.out; have hnc23 := NB134_138.out; have hcz24_0 : w22.cell? ⟨gb138, 0, none⟩ = some (.int .u64 0) := (blk_cell BK138.out 0).trans rfl; have hcz24_1 : w22.cell? ⟨gb138, 1, none⟩ = some (.int .u64 0) := (blk_cell BK138.out 1).trans rfl; have hcz24_2 : w22.cell? ⟨gb138, 2, none⟩ = some (.slice none 0 0) := (blk_cell BK138.out 2).trans rfl; have hfz24_0 := blk_frozen BK138.out 0; have hfz24_1 := blk_frozen BK138.out 1; have hfz24_2 := blk_frozen BK138.out 2))
                go_roundg k1
                case measure => have := HK1.out; omega
                case rel => exact ⟨(wrap64 (x20_1 + 1)), (x135000_1), (x135001_1), (by first | rfl | (simp; done) | (simp [*]; done)), H', ⟨by have := HK1.out; omega⟩, ⟨by (with_reducible repeat (first | refine blk_drewN ?_ _ | refine blk_drew ?_ | refine blk_alloc ?_ _)); refine blk_far ?_ NB134_138.out _; (with_reducible repeat (first | refine blk_drewN ?_ _ | refine blk_drew ?_ | refine blk_alloc ?_ _)); refine blk_far ?_ NB134_138.out _; (with_reducible repeat (first | refine blk_drewN ?_ _ | refine blk_drew ?_ | refine blk_alloc ?_ _)); refine blk_far ?_ NB134_138.out _; (with_reducible repeat (first | refine blk_drewN ?_ _ | refine blk_drew ?_ | refine blk_alloc ?_ _)); exact BK134.out⟩, ⟨by repeat (first | (with_reducible first | exact HB.out | apply below_alloc | apply pw_below_drewN | apply below_drew1 | refine below_set ?_ GE134.out | refine below_set ?_ GE138.out) | exact HB.out)⟩⟩
            · rw [if_neg c9] at H
              exact absurd H (by simp)
          · rw [if_neg c8] at H
            exact absurd H (by simp)
        · rw [if_neg c7] at H
          have c7b0 : decide (x20_1 < (l0.length : Int)) = false := decide_eq_false c7
          clear c7
          simp only [Option.some.injEq, Prod.mk.injEq] at H
          obtain ⟨rfl, rfl, rfl, rfl⟩ := H
          have hcz25_0 : wr.cell? ⟨gb134, 0, none⟩ = some (.int .u64 x135000_1) := (blk_cell BK134.out 0).trans rfl
          have hcz25_1 : wr.cell? ⟨gb134, 1, none⟩ = some (.int .u64 x135001_1) := (blk_cell BK134.out 1).trans rfl
          have hcz25_2 : wr.cell? ⟨gb134, 2, none⟩ = some (.slice none 0 0) := (blk_cell BK134.out 2).trans rfl
          have hfz25_0 := blk_frozen BK134.out 0
          have hfz25_1 := blk_frozen BK134.out 1
          have hfz25_2 := blk_frozen BK134.out 2
          go_wp2
          refine bodyPost_ret (results_ct rfl _ _ gb134 45 #[.int .u64 0, .int .u64 0, .slice none 0 0] (0, 0) _ rfl (by (with_reducible repeat (first | refine blk_drewN ?_ _ | refine blk_drew ?_ | refine blk_alloc ?_ _)); refine blk_put (cs := #[.int .u64 0, .int .u64 0, .slice none 0 0]) ?_ 2 _ rfl; (with_reducible repeat (first | refine blk_drewN ?_ _ | refine blk_drew ?_ | refine blk_alloc ?_ _)); refine blk_put (cs := #[.int .u64 0, .int .u64 x135001_1, .slice none 0 0]) ?_ 1 _ rfl; (with_reducible repeat (first | refine blk_drewN ?_ _ | refine blk_drew ?_ | refine blk_alloc ?_ _)); refine blk_put (cs := #[.int .u64 x135000_1, .int .u64 x135001_1, .slice none 0 0]) ?_ 0 _ rfl; (with_reducible repeat (first | refine blk_drewN ?_ _ | refine blk_drew ?_ | refine blk_alloc ?_ _)); exact BK134.out) Try.underlying45 rfl (by kernel_rfl)) rfl ?_
          exact ⟨_, by first | rfl | (simp [errW_none, errW_some] <;> rfl) | (simp [*, errW_none, errW_some] <;> rfl), by first | exact Kd.R_nil _ _ _ _ _ | exact Kd.N_nil _ _ _ _ _ | exact Kd.V_nil _ _ _ _ _ | exact Kd.Q_nil _ _ _ _ _ | exact Kd.S_nil _ _ _ _ _, by repeat (first | (with_reducible first | exact HB.out | apply below_alloc | apply pw_below_drewN | apply below_drew1 | refine below_set ?_ GE134.out) | exact HB.out)⟩
  · rw [if_neg c4] at H
    have c4b0 : (t136 == 0) = false := beq_eq_false_iff_ne.mpr c4
    have c4b1 : (t136 != 0) = true := bne_iff_ne.mpr c4
    simp only [Option.some.injEq, Prod.mk.injEq] at H
    obtain ⟨rfl, rfl, rfl, rfl⟩ := H
    go_enter Try.func21, Try.ntmps21
    go_wp2_with (first | ((with_reducible refine gate_dst (N := 4) rfl ?_); refine box_event ?hg (N := 4) ?hd (cs := #[.int .u64 0, .int .u64 0, .slice none 0 0]) (t := 45) ?hr ?_; (case hd => rfl); (case hg => rfl); (case hr => first | (go_simp; done) | (go_simp; rfl)); intro gb134 hg w26 hbox hb; have n0_ := Aside0.mk (below_step (by repeat (first | (with_reducible first | exact HB.out | apply below_alloc | apply pw_below_drewN | apply below_drew1) | exact HB.out)) hb); have n1_ := Aside0.mk (hbox); have n2_ := Aside0.mk ((by rw [hg]; exact (below_size (by repeat (first | (with_reducible first | exact HB.out | apply below_alloc | apply pw_below_drewN | apply below_drew1) | exact HB.out))) : w.heap.size ≤ gb134)); have n3_ := Aside0.mk ((by rw [hg]; exact (below_size (by repeat (first | (with_reducible first | exact HB.out | apply below_alloc | apply pw_below_drewN | apply below_drew1) | exact HB.out))) : w.heap.size ≤ gb134)); clear HB; have HB := n0_; have BK134 := n1_; have GW134 := n2_; have GE134 := n3_; clear n0_ n1_ n2_ n3_; clear hb hbox hg) | ((with_reducible refine gate_callee (f := 20) rfl ?_); refine goesL_ (some 12) rfl rfl Try.func20 (by kernel_rfl) rfl #[.slice A0 l0.length c0] rfl (by (try simp only [List.map_toArray, List.map_cons, List.map_nil]); first | done | rfl | (simp only [List.length_drop, List.length_take]; rfl)) ?_; (with_reducible refine (proof_Check.calls k _ _ l0 t135 t136 _ ?side1 ?side2 A3.out).mono ?_); (case side1 => repeat (first | exact (Kd.C_below HR0.out HB.out) | (with_reducible refine Kd.C_alloc ?_ _) | (with_reducible refine Kd.C_drewN ?_ _) | (with_reducible refine Kd.C_drew ?_))); (case side2 => exact HC0.out); rintro e w27 ⟨rfl, hb⟩; refine ⟨_, rfl, ?_⟩; have n0_ := Aside0.mk (blk_below (g := gb134) (o := .cells #[.int .u64 0, .int .u64 0, .slice none 0 0] 45 (0, 0)) (by (with_reducible repeat (first | refine blk_drewN ?_ _ | refine blk_drew ?_ | refine blk_alloc ?_ _)); exact BK134.out) hb); have n1_ := Aside0.mk (below_step (by repeat (first | (with_reducible first | exact HB.out | apply below_alloc | apply pw_below_drewN | apply below_drew1 | refine below_set ?_ GE134.out) | exact HB.out)) hb); clear BK134; clear HB; have BK134 := n0_; have HB := n1_; clear n0_ n1_; (try clear hb); (try clear hb2); (try clear hk); (try clear hi); have hcz28_0 : w27.cell? ⟨gb134, 0, none⟩ = some (.int .u64 0) := (blk_cell BK134.out 0).trans rfl; have hcz28_1 : w27.cell? ⟨gb134, 1, none⟩ = some (.int .u64 0) := (blk_cell BK134.out 1).trans rfl; have hcz28_2 : w27.cell? ⟨gb134, 2, none⟩ = some (.slice none 0 0) := (blk_cell BK134.out 2).trans rfl; have hfz28_0 := blk_frozen BK134.out 0; have hfz28_1 := blk_frozen BK134.out 1; have hfz28_2 := blk_frozen BK134.out 2))
    refine bodyPost_ret (results_ct rfl _ _ gb134 45 #[.int .u64 0, .int .u64 0, .slice none 0 0] (0, 0) _ rfl (by (with_reducible repeat (first | refine blk_drewN ?_ _ | refine blk_drew ?_ | refine blk_alloc ?_ _)); refine blk_put (cs := #[.int .u64 0, .int .u64 0, .slice none 0 0]) ?_ 2 _ rfl; (with_reducible repeat (first | refine blk_drewN ?_ _ | refine blk_drew ?_ | refine blk_alloc ?_ _)); refine blk_put (cs := #[.int .u64 0, .int .u64 0, .slice none 0 0]) ?_ 1 _ rfl; (with_reducible repeat (first | refine blk_drewN ?_ _ | refine blk_drew ?_ | refine blk_alloc ?_ _)); refine blk_put (cs := #[.int .u64 0, .int .u64 0, .slice none 0 0]) ?_ 0 _ rfl; (with_reducible repeat (first | refine blk_drewN ?_ _ | refine blk_drew ?_ | refine blk_alloc ?_ _)); exact BK134.out) Try.underlying45 rfl (by kernel_rfl)) rfl ?_
    exact ⟨_, by first | rfl | (simp [errW_none, errW_some] <;> rfl) | (simp [*, errW_none, errW_some] <;> rfl), by first | exact Kd.R_nil _ _ _ _ _ | exact Kd.N_nil _ _ _ _ _ | exact Kd.V_nil _ _ _ _ _ | exact Kd.Q_nil _ _ _ _ _ | exact Kd.S_nil _ _ _ _ _, by repeat (first | (with_reducible first | exact HB.out | apply below_alloc | apply pw_below_drewN | apply below_drew1 | refine below_set ?_ GE134.out) | exact HB.out)⟩
end Go.Proofs.Ytcphlhphdpjnfaa.XT
end
