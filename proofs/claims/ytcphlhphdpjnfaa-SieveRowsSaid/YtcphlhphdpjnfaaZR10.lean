/- Parts of this claim's texts, packed by wip/tools/prune.py: what the proof does not reach is left out. -/
import Derived.Test.YtcphlhphdpjnfaaZR9
import Derived.Maps.OwnSet
section
namespace Go.Proofs.Ytcphlhphdpjnfaa.Row05
open Go Go.RowKit Go.Maps Go.Proofs.YtcphlhphdpjnfaaW.PrintWords Go.Proofs.YtcphlhphdpjnfaaW.PrintLast Go.Proofs.YtcphlhphdpjnfaaW.PrintMore Go.Proofs.Ytcphlhphdpjnfaa.Given Go.Proofs.Ytcphlhphdpjnfaa.M Go.Proofs.Ytcphlhphdpjnfaa.XS Go.Proofs.Ytcphlhphdpjnfaa.XT Go.Proofs.Ytcphlhphdpjnfaa.Given05
def Rv (v : Value) : Option (DataW Value × List MemPlace) := some (.held v, [])
abbrev entV (e : S45) (v : Value) : Value := .agg #[.int .u64 e.f0, .int .u64 e.f1, v]
abbrev zE : Value := .agg #[.int .u64 0, .int .u64 0, .slice none 0 0]
theorem zE_run (w : World) : (zeroValue 45).run Try.prog w = .ok zE w := by
  kernel_rfl
structure MapR (w : World) (base b : Nat) (f : Nat → Nat) (all : List S45) : Prop where
  own : ∃ D n, w.ownsMap Try.prog 26 Rv b n D ∧ n ≤ all.length ∧ (∀ q, Maps.has D (.int .u64 q) = all.any (fun e => e.f0 == q)) ∧
    ∀ e ∈ all, ∃ v, (∀ zd, D.atKey (.int .u64 e.f0) zd = .held (entV e v)) ∧ Kd.R k33 33 w base (fun k => f k = e.f0.toNat ∧ k ≠ b) v e.f2
theorem MapR.lt {w : World} {base b : Nat} {f : Nat → Nat} {all : List S45} (h : MapR w base b f all) : b < w.heap.size := by
  obtain ⟨D, n, ho, _⟩ := h.own
  exact ho.lt
theorem MapR.made (w : World) (base : Nat) (f : Nat → Nat) : MapR (w.alloc (.map #[] 0)) base w.heap.size f [] :=
  ⟨⟨_, 0, World.ownsMap_made w _ _ Rv, Nat.le_refl _, fun _ => rfl, fun e he => by cases he⟩⟩
theorem MapR.below {w w' : World} {base b : Nat} {f : Nat → Nat} {all : List S45} (h : MapR w base b f all) (hb : Below w.heap.size w w') : MapR w' base b f all := by
  obtain ⟨D, n, ho, hn, hh, he⟩ := h.own
  have hlt := ho.lt
  obtain ⟨es, clock, hbk, F, hs, hD⟩ := ho
  exact ⟨⟨D, n, ⟨es, clock, (hb.block b hlt).trans hbk, F, hs, hD⟩, hn, hh, fun e hm => by
    obtain ⟨v, h1, h2⟩ := he e hm
    exact ⟨v, h1, Kd.R_below h2 hb⟩⟩⟩
theorem MapR.retag {w : World} {base b : Nat} {f f' : Nat → Nat} {all : List S45} (h : MapR w base b f all) (hf : ∀ k, k < w.heap.size → f' k = f k) : MapR w base b f' all := by
  obtain ⟨D, n, ho, hn, hh, he⟩ := h.own
  exact ⟨⟨D, n, ho, hn, hh, fun e hm => by
    obtain ⟨v, h1, h2⟩ := he e hm
    exact ⟨v, h1, Kd.R_mono (Kd.R_bound h2) fun k hk => ⟨by rw [hf k hk.2.2.1]; exact hk.1.1, hk.1.2⟩⟩⟩⟩
theorem MapR.miss {w : World} {base b : Nat} {f : Nat → Nat} {all : List S45} {p : Int} (h : MapR w base b f all) (hp : (Lit.int .u64 p).wf = true) (hn : all.any (fun e => e.f0 == p) = false) :
    (Instr.lookup 56 (.map (some b)) (.int .u64 p) true).run Try.prog w = .ok (.tuple #[zE, .bool false]) w := by
  obtain ⟨D, n, ho, _, hh, _⟩ := h.own
  have hkey := keyOf_int_mk Try.underlying26 hp
  have h1 := hh p
  rw [hn] at h1
  obtain ⟨es, clock, hb, F, _, rfl⟩ := ho
  rcases Maps.fit_look true (int_keyed Try.underlying26) Try.underlying56 (zE_run w) hb F hkey with ⟨hrun, _, _⟩ | ⟨e0, y, _, _, _, _, hat, _⟩
  · exact hrun
  · rw [Maps.has_true_of_atKey hat] at h1; cases h1
theorem MapR.hit {w : World} {base b : Nat} {f : Nat → Nat} {all : List S45} {e : S45} (h : MapR w base b f all) (hp : (Lit.int .u64 e.f0).wf = true) (he : e ∈ all) :
    ∃ v, (Instr.lookup 56 (.map (some b)) (.int .u64 e.f0) true).run Try.prog w = .ok (.tuple #[entV e v, .bool true]) w ∧ (Instr.lookup 56 (.map (some b)) (.int .u64 e.f0) false).run Try.prog w = .ok (entV e v) w ∧
      Kd.R k33 33 w base (fun k => f k = e.f0.toNat ∧ k ≠ b) v e.f2 := by
  obtain ⟨D, n, ho, _, hh, hE⟩ := h.own
  have hkey := keyOf_int_mk Try.underlying26 hp
  obtain ⟨v, hat, hr⟩ := hE e he
  have hhas := Maps.has_true_of_atKey hat
  obtain ⟨v1, p1, hrun1, hv1⟩ := ho.look_ok (int_keyed Try.underlying26) Try.underlying56 (zE_run w) (zd := .held zE) (zp := []) rfl hkey
  obtain ⟨v2, p2, hrun2, hv2⟩ := ho.lookup (int_keyed Try.underlying26) Try.underlying56 (zE_run w) (zd := .held zE) (zp := []) rfl hkey
  rw [hat] at hv1 hv2
  rw [hhas] at hrun1
  have e1 : v1 = entV e v := DataW.held.inj (Prod.mk.inj (Option.some.inj hv1)).1
  have e2 : v2 = entV e v := DataW.held.inj (Prod.mk.inj (Option.some.inj hv2)).1
  rw [e1] at hrun1
  rw [e2] at hrun2
  exact ⟨v, hrun1, hrun2, hr⟩
theorem MapR.put {w w' : World} {base b : Nat} {f : Nat → Nat} {all : List S45} {D : DataW Value} {n : Nat} {e : S45} {v : Value} (hn : n ≤ all.length) (hh : ∀ q, Maps.has D (.int .u64 q) = all.any (fun e => e.f0 == q)) (hM : Maps.IsMap D)
    (hE : ∀ e ∈ all, ∃ v, (∀ zd, D.atKey (.int .u64 e.f0) zd = .held (entV e v)) ∧ Kd.R k33 33 w base (fun k => f k = e.f0.toNat ∧ k ≠ b) v e.f2) (hnew : all.any (fun x => x.f0 == e.f0) = false)
    (hr : Kd.R k33 33 w base (fun k => f k = e.f0.toNat ∧ k ≠ b) v e.f2)
    (ho : w'.ownsMap Try.prog 26 Rv b (n + 1) (D.put (.int .u64 e.f0) (.held (entV e v)))) (hg : w.grownBy w' (some b)) : MapR w' base b f (all ++ [e]) := by
  have hkl : ∀ q : Int, WideAt.IsKeyLit (.int .u64 q) := fun q => trivial
  have hne : ∀ x ∈ all, x.f0 ≠ e.f0 := fun x hx c => by
    rw [List.any_eq_false] at hnew
    exact hnew x hx (by rw [c]; exact beq_self_eq_true _)
  have hne' : ∀ {q q' : Int}, q ≠ q' → (Lit.int .u64 q) ≠ (Lit.int .u64 q') := fun h c => h (by injection c)
  refine ⟨⟨_, n + 1, ho, by rw [List.length_append]; exact Nat.add_le_add_right hn 1, fun q => ?_, fun x hx => ?_⟩⟩
  · rw [List.any_append]
    by_cases c : q = e.f0
    · subst c
      rw [Maps.has_put_same hM (hkl _)]
      simp
    · rw [Maps.has_put_other (hne' c), hh]
      have : (e.f0 == q) = false := beq_eq_false_iff_ne.mpr fun h => c h.symm
      simp [this]
  · rcases List.mem_append.1 hx with hx | hx
    · obtain ⟨u, h1, h2⟩ := hE x hx
      exact ⟨u, fun zd => by rw [Maps.atKey_put_other (hne' (hne x hx))]; exact h1 zd, Kd.R_grown h2 hg fun k hk c => hk.2 (by injection c)⟩
    · have : x = e := by simpa using hx
      subst this
      exact ⟨v, fun zd => Maps.atKey_put_same hM (hkl _) _ zd, Kd.R_grown hr hg fun k hk c => hk.2 (by injection c)⟩
end Go.Proofs.Ytcphlhphdpjnfaa.Row05
end
section
namespace Go.Proofs.Ytcphlhphdpjnfaa.Row05
open Go Go.RowKit Go.Maps Go.Proofs.YtcphlhphdpjnfaaW.PrintWords Go.Proofs.YtcphlhphdpjnfaaW.PrintLast Go.Proofs.YtcphlhphdpjnfaaW.PrintMore Go.Proofs.Ytcphlhphdpjnfaa.Given Go.Proofs.Ytcphlhphdpjnfaa.M Go.Proofs.Ytcphlhphdpjnfaa.XS Go.Proofs.Ytcphlhphdpjnfaa.XT Go.Proofs.Ytcphlhphdpjnfaa.Given05
instance (p : Int) : Decidable (U p) := by unfold U; infer_instance
mutual
def gatherF : Nat → List S45 → Int → Option (List S45)
  | 0, _, _ => none
  | k + 1, all, p => if U p then (if all.any (fun e => e.f0 == p) = true then some all else if p = 2 then some all else
      (sieve_Factor.f k (IntKind.u64.wrap (p - 1))).bind fun l => (sieve_Generator.f k p).bind fun g => if all.length < 1000 then gatherL k (all ++ [⟨p, g, l⟩]) l else none) else none
def gatherL : Nat → List S45 → List S33 → Option (List S45)
  | 0, _, _ => none
  | _ + 1, all, [] => some all
  | k + 1, all, x :: t => (gatherF k all x.f0).bind fun a => gatherL k a t
end
theorem mem_of_any {all : List S45} {p : Int} (h : all.any (fun e => e.f0 == p) = true) : ∃ e ∈ all, e.f0 = p := by
  rw [List.any_eq_true] at h
  obtain ⟨e, he, hp⟩ := h
  exact ⟨e, he, by simpa using hp⟩
theorem wf_of_U {p : Int} (h : U p) : (Lit.int .u64 p).wf = true := by
  unfold U at h
  simp [Lit.wf, IntKind.min, IntKind.max, IntKind.bits, IntKind.signed]
  omega
theorem put_step {w w3 w4 : World} {base b : Nat} {f : Nat → Nat} {all : List S45} {e : S45} {v o : Value} {t : TypeId} (hbase : base ≤ w.heap.size) (hm : MapR w base b f all) (hnew : all.any (fun x => x.f0 == e.f0) = false)
    (hb3 : Below (w.alloc (.cells #[.int .u64 0, .int .u64 0, o] t)).heap.size (w.alloc (.cells #[.int .u64 0, .int .u64 0, o] t)) w3) (hv : Kd.R k33 33 w3 (w.alloc (.cells #[.int .u64 0, .int .u64 0, o] t)).heap.size (fun _ => True) v e.f2) (hb4 : Below w3.heap.size w3 w4) :
    ∃ f' D n, MapR w4 base b f' all ∧ w4.ownsMap Try.prog 26 Rv b n D ∧ n ≤ all.length ∧ (∀ w5, w5.ownsMap Try.prog 26 Rv b (n + 1) (D.put (.int .u64 e.f0) (.held (entV e v))) → w4.grownBy w5 (some b) →
      MapR w5 base b f' (all ++ [e]) ∧ Kd.R k33 33 w5 base (fun k => k ≠ b) v e.f2 ∧ w.grownBy w5 (some b)) := by
  have hs : (w.alloc (.cells #[.int .u64 0, .int .u64 0, o] t)).heap.size = w.heap.size + 1 := by simp
  have hblt := hm.lt
  have hb : Below w.heap.size w w4 := below_step (below_step (below_alloc (Below.refl _ _) _) hb3) hb4
  have hm4 : MapR w4 base b (fun k => if w.heap.size + 1 ≤ k then e.f0.toNat else f k) all := (hm.retag fun k hk => if_neg (by omega)).below hb
  have hv4 : Kd.R k33 33 w4 base (fun k => (if w.heap.size + 1 ≤ k then e.f0.toNat else f k) = e.f0.toNat ∧ k ≠ b) v e.f2 := by
    refine Kd.R_lower (Kd.R_mono (Kd.R_bound (Kd.R_below hv hb4)) fun k hk => ?_) (base := (w.alloc (.cells #[.int .u64 0, .int .u64 0, o] t)).heap.size) (by omega)
    have := hk.2.1
    rw [hs] at this
    exact ⟨if_pos this, by omega⟩
  obtain ⟨D, n, ho, hn, hh, hE⟩ := hm4.own
  refine ⟨_, D, n, hm4, ho, hn, fun w5 ho5 hg5 => ⟨MapR.put hn hh ho.isMap hE hnew hv4 ho5 hg5, Kd.R_mono (Kd.R_grown hv4 hg5 fun k hk c => hk.2 (by injection c)) fun k hk => hk.2, ?_⟩⟩
  exact ⟨hg5.os.trans hb.os, hg5.tape.trans hb.tape, hg5.output.trans hb.output, Nat.le_trans hb.size hg5.size, fun k hk hne => (hg5.block k (Nat.lt_of_lt_of_le hk hb.size) hne).trans (hb.block k hk)⟩
theorem grown_trans {w w1 w2 : World} {row : Option Nat} (h : w.grownBy w1 row) (h' : w1.grownBy w2 row) : w.grownBy w2 row :=
  ⟨h'.os.trans h.os, h'.tape.trans h.tape, h'.output.trans h.output, Nat.le_trans h.size h'.size, fun k hk hne => (h'.block k (Nat.lt_of_lt_of_le hk h.size) hne).trans (h.block k hk hne)⟩
set_option maxRecDepth 100000 in
set_option maxHeartbeats 4000000 in
theorem gather_calls (K : Nat) : ∀ (all r : List S45) (p : Int) (w : World) (base b : Nat) (f : Nat → Nat), base ≤ w.heap.size → gatherF K all p = some r → MapR w base b f all →
    Calls Try.prog 28 #[.map (some b), .int .u64 p] w fun e w' => e = .returned (.tuple #[]) ∧ (∃ f', MapR w' base b f' r) ∧ w.grownBy w' (some b) := by
  induction K using Nat.strongRecOn with
  | ind K ih =>
  intro all r p w base b f hbase h hm
  cases K with
  | zero => simp [gatherF] at h
  | succ K =>
  unfold gatherF at h
  split at h
  case isFalse => cases h
  rename_i hU
  have hwf := wf_of_U hU
  have HM := Aside0.mk hm
  have HB := Aside0.mk hbase
  split at h
  · -- it is there
    rename_i hany
    obtain rfl := Option.some.inj h
    obtain ⟨e, he, rfl⟩ := mem_of_any hany
    obtain ⟨v, hrun, _, hr⟩ := hm.hit hwf he
    obtain ⟨A, c, rfl⟩ := Kd.R_slice hr
    clear hany h hm hr ih
    go_enter Try.func28, Try.ntmps28
    go_wp2
    refine bodyPost_ret (results_none rfl _ _ _) rfl ?_
    exact ⟨rfl, ⟨f, HM.out.below (by repeat (first | exact Below.refl _ _ | apply below_alloc))⟩, World.grownBy_alloc _ _ _⟩
  · rename_i hany
    have hany' : all.any (fun e => e.f0 == p) = false := by simpa using hany
    have hrun := hm.miss hwf hany'
    split at h
    · rename_i h2
      subst h2
      obtain rfl := Option.some.inj h
      clear hany h hm ih
      go_enter Try.func28, Try.ntmps28
      go_wp2
      refine bodyPost_ret (results_none rfl _ _ _) rfl ?_
      exact ⟨rfl, ⟨f, HM.out.below (by repeat (first | exact Below.refl _ _ | apply below_alloc))⟩, World.grownBy_alloc _ _ _⟩
    · rename_i h2
      obtain ⟨l, h3, h⟩ := Option.bind_eq_some_iff.1 h
      obtain ⟨g, h4, h⟩ := Option.bind_eq_some_iff.1 h
      split at h
      case isFalse => cases h
      rename_i hlen
      have H3 := Aside0.mk h3
      have H4 := Aside0.mk h4
      have H5 := Aside0.mk h
      have HL := Aside0.mk hlen
      have HN := Aside0.mk hany'
      have HW := Aside0.mk hwf
      have c2 : (p == 2) = false := beq_eq_false_iff_ne.mpr h2
      have IH := Aside0.mk ih
      clear hany h hm h3 h4 ih hlen hany'
      go_enter Try.func28, Try.ntmps28
      go_wp2_with (first
        | (go_at_call 11; (with_reducible refine (sieve_Factor.calls K (IntKind.u64.wrap (p - 1)) l _ H3.out).mono ?_); rintro e w3 ⟨v, rfl, hv, hb3⟩; (obtain ⟨A, c, rfl⟩ := Kd.R_slice hv); have HV := Aside0.mk hv; have HB3 := Aside0.mk hb3; clear hb3 hv)
        | (go_at_call 14; (with_reducible refine (sieve_Generator.calls K p g _ H4.out).mono ?_); rintro e w4 ⟨rfl, hb4⟩; have HB4 := Aside0.mk hb4; clear hb4)
        | (at_mapUpdate; obtain ⟨f', D, n, hm4, ho, hn, hput⟩ := put_step (e := ⟨p, g, l⟩) HB.out HM.out HN.out HB3.out HV.out HB4.out; have HP := Aside0.mk hput; (refine wpList_mapUpdate_own _ rfl _ _ _ 56 rfl 26 45 (int_keyed Try.underlying26) Try.underlying56 Rv b n D rfl ho ?hnmax _ _ (.int .u64 p) rfl rfl (keyOf_int_mk Try.underlying26 HW.out) (.held (entV ⟨p, g, l⟩ (.slice A l.length c))) [] rfl ?_); (case hnmax => have := HL.out; unfold maxLen; omega); intro w5 ho5 hg5; obtain ⟨q1, q2, q3⟩ := HP.out w5 ho5 hg5; have HM5 := Aside0.mk q1; have HR5 := Aside0.mk q2; have HG5 := Aside0.mk q3; clear hput hm4 ho hn ho5 hg5 q1 q2 q3 HP))
      have HLEN : Aside0 (l.length ≤ 9223372036854775807) := ⟨(Kd.R_reads' HV.out).2.2.2.1⟩
      go_loopg [32] K (fun kq v32 wr => ∃ (i : Nat) (a : List S45), v32 = .int .i64 i ∧ i ≤ l.length ∧ Aside0 (gatherL kq a (l.drop i) = some r) ∧ Aside0 (kq ≤ K) ∧ Aside0 (∃ f', MapR wr base b f' a) ∧ Aside0 (Kd.R k33 33 wr base (fun k => k ≠ b) (.slice A l.length c) l) ∧ Aside0 (w.grownBy wr (some b)))
      case atStart => exact ⟨0, _, rfl, Nat.zero_le _, H5, ⟨Nat.le_refl _⟩, ⟨_, HM5.out⟩, HR5, HG5⟩
      case round =>
        obtain ⟨i, a, rfl, hi, HA, HK1, HMr, HRr, HGr⟩ := hrel
        cases gk with
        | zero => exact absurd HA.out (by simp [gatherL])
        | succ k1 =>
          have hlen := HLEN.out
          by_cases hlt : i < l.length
          · have c3b0 : decide ((i : Int) < (l.length : Int)) = true := decide_eq_true (by omega)
            have c3b1 : decide (i < l.length) = true := decide_eq_true hlt
            have p1 : 0 ≤ (i : Int) := by omega
            have q1 : (i : Int) < (l.length : Int) := by omega
            have hd : l.drop i = rd_T33 l (i : Int) :: l.drop (i + 1) := by
              rw [List.drop_eq_getElem_cons hlt]
              unfold rd_T33
              rw [Int.toNat_natCast, List.getD_eq_getElem?_getD, List.getElem?_eq_getElem hlt]; rfl
            have hA := HA.out
            rw [hd] at hA
            unfold gatherL at hA
            obtain ⟨a', hA1, hA2⟩ := Option.bind_eq_some_iff.1 hA
            obtain ⟨ad, rfl, hx0, hx1⟩ := at_T33 (Kd.R_reads' HRr.out).2.2 i (by omega) (by omega)
            simp only [Int.toNat_natCast] at hx0 hx1
            have HA1 := Aside0.mk hA1
            have HA2 := Aside0.mk hA2
            have HLT := Aside0.mk hlt
            obtain ⟨f1, hm1⟩ := HMr.out
            have HM1 := Aside0.mk hm1
            clear hA hA1 hA2 hd hlt hlen hi hm1 HA
            go_wp2_with (first
              | ((with_reducible refine gate_dst (N := 8) rfl ?_); refine box_event ?hg (N := 8) ?hd (cs := #[.int .u64 0, .int .i64 0]) (t := 33) ?hr ?_; (case hd => rfl); (case hg => rfl); (case hr => first | (go_simp; done) | (go_simp; rfl)); intro gb hg w11 hbox hbx2; (have GE : Aside0 (wr.heap.size ≤ gb) := ⟨by rw [hg]; exact Nat.le_refl _⟩); (have HBX := Aside0.mk hbx2); (have z0 : w11.cell? ⟨gb, 0, none⟩ = some (.int .u64 0) := (blk_cell hbox 0).trans rfl); (have z1 : w11.cell? ⟨gb, 1, none⟩ = some (.int .i64 0) := (blk_cell hbox 1).trans rfl); have z2 := blk_frozen hbox 0; have z3 := blk_frozen hbox 1; clear hbox hbx2 hg)
              | (go_at_call 28; (with_reducible refine (IH.out k1 ?hk a a' _ _ base b f1 ?hba HA1.out ?hmr).mono ?_); (case hk => have := HK1.out; omega); (case hmr => exact HM1.out.below (below_set (below_set HBX.out GE.out) GE.out)); (case hba => exact Nat.le_trans HB.out (Nat.le_trans HGr.out.size (below_set (below_set HBX.out GE.out) GE.out).size)); rintro e w6 ⟨rfl, hm6, hg6⟩; have HM6 := Aside0.mk hm6; have HG6 := Aside0.mk hg6; clear hm6 hg6))
            have HBY : Aside0 (wr.grownBy w6 (some b)) := ⟨by
              have hb := below_set (below_set (v := .int .u64 (rd_T33 l (i : Int)).f0) HBX.out GE.out (j := 0)) (v := .int .i64 (rd_T33 l (i : Int)).f1) GE.out (j := 1)
              exact grown_trans ⟨hb.os, hb.tape, hb.output, hb.size, fun k hk _ => hb.block k hk⟩ HG6.out⟩
            go_roundg k1
            case measure => have := HK1.out; omega
            case rel => exact ⟨i + 1, a', by have := HLT.out; have := HLEN.out; exact congrArg (Value.int .i64) ((w64_id ((i : Int) + 1) (by omega) (by omega)).trans rfl), by have := HLT.out; omega, HA2, ⟨by have := HK1.out; omega⟩, HM6, ⟨Kd.R_grown HRr.out HBY.out fun k hk c => hk (by injection c)⟩, ⟨grown_trans HGr.out HBY.out⟩⟩
          · have c3b0 : decide ((i : Int) < (l.length : Int)) = false := decide_eq_false (by omega)
            have c3b1 : decide (i < l.length) = false := decide_eq_false hlt
            have hA := HA.out
            rw [List.drop_eq_nil_iff.2 (by omega)] at hA
            unfold gatherL at hA
            obtain rfl := Option.some.inj hA
            clear hlt hlen hA HA
            go_wp2
            go_end0
            exact ⟨rfl, HMr.out, HGr.out⟩
end Go.Proofs.Ytcphlhphdpjnfaa.Row05
end
section
namespace Go.Proofs.Ytcphlhphdpjnfaa.Row05
open Go Go.RowKit Go.Maps Go.Proofs.YtcphlhphdpjnfaaW.PrintWords Go.Proofs.YtcphlhphdpjnfaaW.PrintLast Go.Proofs.YtcphlhphdpjnfaaW.PrintMore Go.Proofs.Ytcphlhphdpjnfaa.Given Go.Proofs.Ytcphlhphdpjnfaa.M Go.Proofs.Ytcphlhphdpjnfaa.XS Go.Proofs.Ytcphlhphdpjnfaa.XT Go.Proofs.Ytcphlhphdpjnfaa.Given05
abbrev rP := S34
abbrev rE := S47
def setAll (need : List Bool) (l : List rP) : List Bool := l.foldl (fun n x => n.set x.f0.toNat true) need
def okNeed (need : List Bool) (l : List rP) : Prop := ∀ x ∈ l, 0 ≤ x.f0 ∧ x.f0 < (need.length : Int)
instance (need : List Bool) (l : List rP) : Decidable (okNeed need l) := by unfold okNeed; infer_instance
def rrF : Nat → List Bool → List rE → Int → Option (List rE)
  | 0, _, _, _ => none
  | k + 1, need, out, q => if 2 < q then (if U q ∧ q < (need.length : Int) then (if rdOf false need q = false then rrF k need out (q - 1) else
      (epicycleref05_Factor.f k (q - 1)).bind fun l => if okNeed need l ∧ l.length < 1000 then ((epicycleref05_Generator.f k q).bind fun g => if out.length < 1000 then rrF k (setAll need l) (⟨q, g, l⟩ :: out) (q - 1) else none) else none) else none) else some out
def epicycleref05_Row.f (k : Nat) (p : Int) : Option (List rE) := if 0 ≤ p ∧ p < 65537 then rrF k ((List.replicate 65537 false).set p.toNat true) [] p else none
def Inner (w : World) (base b : Nat) (css : List (List Value)) (out : List rE) : Prop :=
  css.length = out.length ∧ ∀ (j : Nat) (c : List Value) (e : rE), css[j]? = some c → out[j]? = some e → ∃ v, c = [.int .u64 e.f0, .int .u64 e.f1, v] ∧ Kd.R k34 34 w base (fun k => k ≠ b) v e.f2
def OutR (w : World) (base b : Nat) (v : Value) (out : List rE) : Prop :=
  ∃ css, (Kd.raw 3).R 47 w base (fun _ => True) v css ∧ Inner w base b css out
theorem OutR.nil (w : World) (base b : Nat) : OutR w base b (.slice none 0 0) [] := ⟨[], Kd.R_nil _ _ _ _ _, rfl, fun j c e h => by simp at h⟩
theorem OutR.below {w w' : World} {base b : Nat} {v : Value} {out : List rE} (h : OutR w base b v out) (hb : Below w.heap.size w w') : OutR w' base b v out := by
  obtain ⟨css, h1, h2, h3⟩ := h
  exact ⟨css, Kd.R_below h1 hb, h2, fun j c e hc he => by
    obtain ⟨u, h4, h5⟩ := h3 j c e hc he
    exact ⟨u, h4, Kd.R_below h5 hb⟩⟩
theorem OutR.far {w : World} {base b : Nat} {v : Value} {out : List rE} {cells : Array Value} (h : OutR w base b v out) (hb : w.heap[b]? = some (.cells cells 4 (0, 0))) (j : Nat) (u : Value) : OutR (w.setCell ⟨b, j, none⟩ u) base b v out := by
  obtain ⟨css, h1, h2, h3⟩ := h
  exact ⟨css, Kd.R_set h1 hb (by decide) j u, h2, fun i c e hc he => by
    obtain ⟨x, h4, h5⟩ := h3 i c e hc he
    exact ⟨x, h4, Kd.R_far (p := ⟨b, j, none⟩) h5 (fun _ hk => hk) u⟩⟩
theorem OutR.slice {w : World} {base b : Nat} {v : Value} {out : List rE} (h : OutR w base b v out) : ∃ A c, v = .slice A out.length c := by
  obtain ⟨css, h1, h2, _⟩ := h
  obtain ⟨A, c, e⟩ := Kd.R_slice h1
  exact ⟨A, c, by rw [← h2]; exact e⟩
theorem OutR.reads {w : World} {base b : Nat} {A : Option Addr} {n c : Nat} {out : List rE} (h : OutR w base b (.slice A n c) out) : n = out.length ∧ n ≤ c ∧ Kd.C k47 w A out.length out := by
  obtain ⟨css, h1, h2, h3⟩ := h
  obtain ⟨r1, r2, r3⟩ := Kd.R_reads' h1
  refine ⟨by omega, r2, ?_⟩
  obtain ⟨q1, q2, q3⟩ := r3
  refine ⟨rfl, by omega, fun hp => ?_⟩
  obtain ⟨ad, e, hh⟩ := q3 (by omega)
  refine ⟨ad, e, fun j p hj => ?_⟩
  obtain ⟨cs, hcs⟩ : ∃ cs, css[j]? = some cs := by
    have := List.getElem?_eq_some_iff.1 hj
    exact ⟨_, List.getElem?_eq_getElem (by obtain ⟨q, _⟩ := this; omega)⟩
  obtain ⟨cc, l1, l2, l3⟩ := hh j cs hcs
  obtain ⟨v, l4, l5⟩ := h3 j cs p hcs hj
  have l2 : cc = cs := l2.1
  subst l2
  obtain ⟨A', c', rfl⟩ := Kd.R_slice l5
  exact ⟨cc, l1, by rw [l4]; exact k47_mk w p (Kd.R_reads' l5).2.1 (Kd.R_reads' l5).2.2, l3⟩
theorem lit_row (w : World) (base : Nat) (hb : base ≤ w.heap.size) (cs : List Value) (h3 : cs.length = 3) (h1 : ∀ u ∈ cs, u.oneCell' = true) :
    (Kd.raw 3).R 47 (w.alloc (.cells cs.toArray 47)) base (fun _ => True) (.slice (some ⟨w.heap.size, 0, none⟩) 1 1) [cs] := by
  have s3 : (Kd.raw 3).sz = 3 := rfl
  refine ⟨fun _ _ => trivial, cs, ?_, ?_⟩
  · rw [s3]
    refine ⟨by rw [h3]; rfl, .inr ⟨w.heap.size, 1, cs.toArray, rfl, hb, World.alloc_heap_new w _, Nat.le_refl _, by unfold maxLen; omega, by rw [List.size_toArray, h3], ?_⟩⟩
    show cs.take (1 * 3) = cs
    exact List.take_of_length_le (by omega)
  · rw [s3]
    refine ⟨by rw [h3]; rfl, fun j p hj => ?_⟩
    cases j with
    | zero =>
      have : p = cs := by simpa using hj.symm
      subst this
      have : (p.drop (0 * 3)).take 3 = p := List.take_of_length_le (by simp; omega)
      rw [this]
      exact ⟨rfl, h3, h1⟩
    | succ j => simp at hj
theorem Inner.cons {w : World} {base b : Nat} {css : List (List Value)} {out : List rE} {e : rE} {v : Value} (h : Inner w base b css out) (hr : Kd.R k34 34 w base (fun k => k ≠ b) v e.f2) :
    Inner w base b ([.int .u64 e.f0, .int .u64 e.f1, v] :: css) (e :: out) := by
  refine ⟨by rw [List.length_cons, List.length_cons, h.1], fun j c x hc hx => ?_⟩
  cases j with
  | zero =>
    obtain rfl : [.int .u64 e.f0, .int .u64 e.f1, v] = c := by simpa using hc
    obtain rfl : e = x := by simpa using hx
    exact ⟨v, rfl, hr⟩
  | succ j => exact h.2 j c x (by simpa using hc) (by simpa using hx)
theorem setAll_len (l : List rP) : ∀ need : List Bool, (setAll need l).length = need.length := by
  induction l with
  | nil => intro need; rfl
  | cons x l ih => intro need; show (setAll (need.set _ true) l).length = _; rw [ih, List.length_set]
theorem setAll_take (need : List Bool) (l : List rP) (i : Nat) (h : i < l.length) : setAll need (l.take (i + 1)) = (setAll need (l.take i)).set (rd_T34 l (i : Int)).f0.toNat true := by
  unfold setAll rd_T34
  rw [List.take_succ_eq_append_getElem h, List.foldl_append]
  simp [List.getD, List.getElem?_eq_getElem h]
end Go.Proofs.Ytcphlhphdpjnfaa.Row05
end
section
namespace Go.Proofs.Ytcphlhphdpjnfaa.Row05
open Go Go.RowKit Go.Maps Go.Proofs.YtcphlhphdpjnfaaW.PrintWords Go.Proofs.YtcphlhphdpjnfaaW.PrintLast Go.Proofs.YtcphlhphdpjnfaaW.PrintMore Go.Proofs.Ytcphlhphdpjnfaa.Given Go.Proofs.Ytcphlhphdpjnfaa.M Go.Proofs.Ytcphlhphdpjnfaa.XS Go.Proofs.Ytcphlhphdpjnfaa.XT Go.Proofs.Ytcphlhphdpjnfaa.Given05
theorem OutR.cons {w5 w6 : World} {base b : Nat} {v1 : Value} {css : List (List Value)} {out : List rE} {e : rE} {u : Value} (hi : Inner w5 base b css out) (hu : Kd.R k34 34 w5 base (fun k => k ≠ b) u e.f2)
    (hr : (Kd.raw 3).R 47 w6 base (fun _ => True) v1 ([[.int .u64 e.f0, .int .u64 e.f1, u]] ++ css)) (hb : Below w5.heap.size w5 w6) : OutR w6 base b v1 (e :: out) := by
  refine ⟨_, hr, ?_⟩
  have h := Inner.cons hi hu
  exact ⟨h.1, fun j c x hc hx => by
    obtain ⟨y, h4, h5⟩ := h.2 j c x hc hx
    exact ⟨y, h4, Kd.R_below h5 hb⟩⟩
theorem infoR : (Try.prog.info? 47).map (fun i => (i.zero, i.size, i.bytes)) = some (some (.agg #[(.int .u64 0), (.int .u64 0), (.slice none 0 0)]), (Kd.raw 3).sz, 40) := by kernel_rfl
set_option maxRecDepth 100000 in
set_option maxHeartbeats 8000000 in
theorem epicycleref05_Row.calls' (k : Nat) (p : Int) (r : List rE) (w : World) (h : epicycleref05_Row.f k p = some r) :
    Calls Try.prog 19 #[.int .u64 p] w fun e w' => ∃ A c, e = .returned (.slice A r.length c) ∧ r.length ≤ c ∧ Kd.C k47 w' A r.length r ∧ Below w.heap.size w w' := by
  unfold epicycleref05_Row.f at h
  split at h
  case isFalse => cases h
  rename_i hp
  obtain ⟨p0, p1⟩ := hp
  obtain ⟨need0, hn0⟩ : ∃ n, n = List.replicate (65537 : Int).toNat false := ⟨_, rfl⟩
  have hlen : need0.length = 65537 := by rw [hn0, List.length_replicate]; rfl
  have h' : rrF k (need0.set p.toNat true) [] p = some r := by rw [hn0]; exact h
  have HNE := Aside0.mk hn0
  have HLE := Aside0.mk hlen
  have H := Aside0.mk h'
  have HP0 := Aside0.mk p0
  have HP1 := Aside0.mk p1
  clear h h' hn0 hlen
  go_enter Try.func19, Try.ntmps19
  go_wp2_with (first
    | ((with_reducible refine gate_dst (N := 9) rfl ?_); refine Kd.R_make Kd.bool _ 4 rfl (N := 9) rfl 52 _ _ rfl 65537 rfl rfl Try.underlying52 (.bool false) 1 info4 rfl (by decide) (by omega) false (ok := fun _ => True) (okp := fun _ => True) rfl (fun _ hk => hk) trivial (by omega) (by decide) (Below.refl _ _) (Nat.le_refl _) ?_; intro v7 w7 ho8 hb hg_ hnew_; clear hg_ hnew_; (have ho9 : Kd.R Kd.bool 4 w7 w.heap.size (fun _ => True) v7 need0 := by rw [HNE.out]; exact ho8); clear ho8; (obtain ⟨nb, cap, rfl, gb, gl, _, _⟩ := Kd.R_form ho9 (by rw [HLE.out]; omega)); (obtain ⟨hx, hf⟩ := Kd.R_celln false ho9 p p0 (by rw [HLE.out]; omega)); (have q1 : p < (need0.length : Int) := by rw [HLE.out]; omega); have HM := Aside0.mk ho9; have HBM := Aside0.mk hb; have GB := Aside0.mk gb; clear ho9 hb gb gl))
  obtain ⟨W0, hW0⟩ : ∃ W0, W0 = w7.setCell ⟨nb, p.toNat, none⟩ (.bool true) := ⟨_, rfl⟩
  have HN0 : Aside0 (Kd.R Kd.bool 4 W0 w.heap.size (fun _ => True) (.slice (some ⟨nb, 0, none⟩) need0.length cap) (need0.set p.toNat true)) := ⟨by rw [hW0]; exact (Kd.R_putg HM.out p true).1⟩
  have HB0 : Aside0 (Below w.heap.size w W0) := ⟨by rw [hW0]; exact below_set HBM.out GB.out⟩
  rw [← hW0]
  clear hW0 hx hf HM HBM q1
  go_loopg [4, 5] k (fun kq v4 v5 wr => ∃ (need : List Bool) (out : List rE) (q : Int), v5 = .int .u64 q ∧ Aside0 (rrF kq need out q = some r) ∧ Aside0 (kq ≤ k) ∧ Aside0 (Kd.R Kd.bool 4 wr w.heap.size (fun _ => True) (.slice (some ⟨nb, 0, none⟩) need0.length cap) need) ∧ Aside0 (OutR wr w.heap.size nb v4 out) ∧ Aside0 (Below w.heap.size w wr))
  case atStart => exact ⟨_, [], p, rfl, H, ⟨Nat.le_refl _⟩, HN0, ⟨OutR.nil _ _ _⟩, HB0⟩
  case round =>
    clear H HN0 HB0
    obtain ⟨need, out, q, rfl, HA, HK1, HN, HO, HB⟩ := hrel
    cases gk with
    | zero => exact absurd HA.out (by simp [rrF])
    | succ k1 =>
      have hA := HA.out
      clear HA
      unfold rrF at hA
      split at hA
      case isFalse h2 =>
        obtain rfl := Option.some.inj hA
        have c2 : decide (q > 2) = false := decide_eq_false h2
        obtain ⟨A, c, rfl⟩ := HO.out.slice
        clear hA h2
        go_wp2
        go_ret
        obtain ⟨_, r2, r3⟩ := HO.out.reads
        exact ⟨A, c, rfl, r2, r3, HB.out⟩
      rename_i h2
      split at hA
      case isFalse => cases hA
      rename_i h3
      obtain ⟨hU, hql⟩ := h3
      have hnl : need0.length = need.length := (Kd.R_reads' HN.out).1
      have c2 : decide (q > 2) = true := decide_eq_true h2
      have p1 : 0 ≤ q := hU.1
      have q1 : q < (need0.length : Int) := by omega
      have hw : IntKind.u64.wrap (q - 1) = q - 1 := wu64_id _ (by omega) (by unfold U at hU; omega)
      obtain ⟨hx, hf⟩ := Kd.R_celln false (hnl ▸ HN.out) q p1 (by omega)
      cases hb : rdOf false need q with
      | false =>
        rw [hb, if_pos rfl] at hA
        rw [hb] at hx
        have HA := Aside0.mk hA
        clear hA hb hf h2 hql hnl
        go_wp2
        go_roundg k1
        case measure => have := HK1.out; omega
        case rel => exact ⟨need, out, q - 1, rfl, HA, ⟨by have := HK1.out; omega⟩, HN, HO, HB⟩
      | true =>
        rw [hb, if_neg (by decide)] at hA
        rw [hb] at hx
        obtain ⟨l, h4, hA⟩ := Option.bind_eq_some_iff.1 hA
        split at hA
        case isFalse => cases hA
        rename_i hok
        obtain ⟨g, h5, hA⟩ := Option.bind_eq_some_iff.1 hA
        split at hA
        case isFalse => cases hA
        rename_i hol
        have H4 := Aside0.mk h4
        have H5 := Aside0.mk h5
        have HA := Aside0.mk hA
        have HOK := Aside0.mk hok
        have HOL := Aside0.mk hol
        have HNL := Aside0.mk hnl
        have HW := Aside0.mk hw
        clear hA hb hf h2 hql hnl h4 h5 hok hol
        go_wp2_with (go_at_call 12; (with_reducible refine (epicycleref05_Factor.calls k1 (q - 1) l _ H4.out).mono ?_); rintro e w3 ⟨v, rfl, hv, hb3⟩; (obtain ⟨A, c, rfl⟩ := Kd.R_slice hv); have HV := Aside0.mk hv; have HB3 := Aside0.mk hb3; clear hb3 hv hx)
        have HN3 : Aside0 (Kd.R Kd.bool 4 w3 w.heap.size (fun _ => True) (.slice (some ⟨nb, 0, none⟩) need0.length cap) (setAll need (l.take 0))) := ⟨Kd.R_below HN.out HB3.out⟩
        have HO3 : Aside0 (OutR w3 w.heap.size nb u4 out) := ⟨HO.out.below HB3.out⟩
        have HL3 : Aside0 (Kd.R k34 34 w3 w.heap.size (fun k => k ≠ nb) (.slice A l.length c) l) := ⟨Kd.R_lower (Kd.R_mono (Kd.R_bound HV.out) fun k hk => by
          have := hk.2.1
          have := (Kd.R_lt HN.out) nb (by simp [Value.ownBlock])
          omega) HB.out.size⟩
        have HBW3 : Aside0 (Below w.heap.size w w3) := ⟨below_step HB.out HB3.out⟩
        clear HN HO HV HB3
        go_loopw [28] (fun v28 wi => ∃ i : Nat, v28 = .int .i64 i ∧ i ≤ l.length ∧ Aside0 (Kd.R Kd.bool 4 wi w.heap.size (fun _ => True) (.slice (some ⟨nb, 0, none⟩) need0.length cap) (setAll need (l.take i))) ∧ Aside0 (OutR wi w.heap.size nb u4 out) ∧ Aside0 (Kd.R k34 34 wi w.heap.size (fun k => k ≠ nb) (.slice A l.length c) l) ∧ Aside0 (Below w.heap.size w wi)) (fun v28 _ => l.length - (intOf v28).toNat)
        case atStart => exact ⟨0, rfl, Nat.zero_le _, HN3, HO3, HL3, HBW3⟩
        case round =>
          clear HN3 HO3 HL3 HBW3
          obtain ⟨i, rfl, hi, HN, HO, HL, HBW⟩ := hrel
          have hl1000 := HOK.out.2
          have nbl : nb < wr.heap.size := (Kd.R_lt HN.out) nb (by simp [Value.ownBlock])
          by_cases hlt : i < l.length
          · have c3b0 : decide ((i : Int) < (l.length : Int)) = true := decide_eq_true (by omega)
            have c3b1 : decide (i < l.length) = true := decide_eq_true hlt
            have p2 : 0 ≤ (i : Int) := by omega
            have q2 : (i : Int) < (l.length : Int) := by omega
            obtain ⟨ad, rfl, hx0, hx1⟩ := at_T34 (Kd.R_reads' HL.out).2.2 i (by omega) (by omega)
            simp only [Int.toNat_natCast] at hx0 hx1
            have hset := setAll_take need l i hlt
            have hmem : rd_T34 l (i : Int) ∈ l := by
              unfold rd_T34
              simp [List.getD, List.getElem?_eq_getElem hlt]
            obtain ⟨Q, hQ⟩ : ∃ Q, Q = (rd_T34 l (i : Int)).f0 := ⟨_, rfl⟩
            obtain ⟨E, hE⟩ : ∃ E, E = (rd_T34 l (i : Int)).f1 := ⟨_, rfl⟩
            obtain ⟨p3, q3⟩ := HOK.out.1 _ hmem
            rw [← hQ] at hx0 hset p3 q3
            rw [← hE] at hx1
            have q4 : Q < (need0.length : Int) := by rw [HNL.out]; exact q3
            obtain ⟨hn, hfn⟩ := Kd.R_celln false HN.out Q p3 q4
            have HST := Aside0.mk hset
            have HLT := Aside0.mk hlt
            clear hset hmem hQ hE hlt hi q3
            go_wp2_with (
              ((with_reducible refine gate_dst (N := 8) rfl ?_); refine box_event ?hg (N := 8) ?hd (cs := #[.int .u64 0, .int .i64 0]) (t := 34) ?hr ?_; (case hd => rfl); (case hg => rfl); (case hr => first | (go_simp; done) | (go_simp; rfl)); intro gb hg w11 hbox hbx2; (have GE : Aside0 (wr.heap.size ≤ gb) := ⟨by rw [hg]; exact Nat.le_refl _⟩); (have ne1 : gb ≠ nb := by have := GE.out; omega); have ne2 := Ne.symm ne1; (have HBX := Aside0.mk hbx2); replace hn := (hbx2.cell (World.block_lt_of_cell? wr _ hn)).trans hn; replace hfn := (World.frozen?_of_block (hbx2.block nb nbl)).trans hfn; (have z0 : w11.cell? ⟨gb, 0, none⟩ = some (.int .u64 0) := (blk_cell hbox 0).trans rfl); (have z1 : w11.cell? ⟨gb, 1, none⟩ = some (.int .i64 0) := (blk_cell hbox 1).trans rfl); have z2 := blk_frozen hbox 0; have z3 := blk_frozen hbox 1; clear hbox hbx2 hg))
            have hB2 := below_set (below_set HBX.out GE.out (j := 0) (v := .int .u64 Q)) GE.out (j := 1) (v := .int .i64 E)
            have HN2 := Kd.R_below HN.out hB2
            obtain ⟨cells, hcells⟩ := Kd.R_typed HN2 nb (by simp [Value.ownBlock])
            have HN4 := Aside0.mk (Kd.R_putg HN2 Q true).1
            rw [← HST.out] at HN4
            have HO4 := Aside0.mk ((HO.out.below hB2).far hcells Q.toNat (.bool true))
            have HL4 := Aside0.mk (Kd.R_far (p := ⟨nb, Q.toNat, none⟩) (Kd.R_below HL.out hB2) (fun _ hk => hk) (.bool true))
            have HB4 := Aside0.mk (below_set (below_step HBW.out hB2) GB.out (j := Q.toNat) (v := .bool true))
            clear hB2 HN2 hcells
            go_roundw
            case rel => exact ⟨i + 1, rfl, HLT.out, HN4, HO4, HL4, HB4⟩
            case measure =>
              have := HLT.out
              simp [intOf]; omega
          · have c3b0 : decide ((i : Int) < (l.length : Int)) = false := decide_eq_false (by omega)
            have c3b1 : decide (i < l.length) = false := decide_eq_false hlt
            have ht : l.take i = l := List.take_of_length_le (by omega)
            rw [ht] at HN
            obtain ⟨css, hcr, hin⟩ := HO.out
            obtain ⟨A', c', rfl⟩ := Kd.R_slice hcr
            have HCR := Aside0.mk hcr
            have HIN := Aside0.mk hin
            clear hlt hi ht hcr hin HO
            go_wp2_with (first
              | (go_at_call 15; (with_reducible refine (epicycleref05_Generator.calls k1 q g _ H5.out).mono ?_); rintro e w4 ⟨rfl, hd⟩; (have HB4 : Aside0 (Below wr.heap.size wr w4) := ⟨by obtain ⟨nd, hnd⟩ := hd; rw [hnd]; exact pw_below_drewN (Below.refl _ _) nd⟩); clear hd)
              | ((with_reducible refine gate_builtin (b := .append) (xs := #[.tmp 42, .tmp 43]) rfl ?_); at_builtin; (refine Kd.R_append_rows (Kd.raw 3) (Rr := (Kd.raw 3).K (w4.alloc (.cells #[.int .u64 q, .int .u64 g, .slice A l.length c] 47))) (w0 := w) w.heap.size ?b1 (.tmp 42) (.tmp 43) 42 47 (.agg #[(.int .u64 0), (.int .u64 0), (.slice none 0 0)]) 40 ?b2 ?b3 ?b4 ?b5 ?b6 ?b7 (.slice (some ⟨w4.heap.size, 0, none⟩) 1 1) [[.int .u64 q, .int .u64 g, .slice A l.length c]] css A' css.length c' (fun _ => True) (fun _ => False) ?b8 ?b9 ?aO ?aR ?aK (fun _ h => h.elim) (fun _ _ => trivial) ?aB ?aS ?aL ?_); (case b1 => rfl); (case b2 => rfl); (case b3 => exact Try.underlying42); (case b4 => exact infoR); (case b5 => rfl); (case b6 => decide); (case b7 => omega); (case b8 => rfl); (case b9 => rfl); (case aO => exact lit_row w4 w.heap.size (below_step HBW.out HB4.out).size _ rfl (fun u hu => by simp at hu; rcases hu with rfl | rfl | rfl <;> rfl)); (case aR => exact (Kd.C_below (Kd.C_below (Kd.R_reads' HCR.out).2.2 HB4.out) (below_alloc (Below.refl _ _) _) : (Kd.raw 3).C (w4.alloc (.cells #[.int .u64 q, .int .u64 g, .slice A l.length c] 47)) A' css.length css)); (case aK => exact fun _ _ h => h); (case aB => exact below_alloc (below_step HBW.out HB4.out) _); (case aS => exact (below_alloc (below_step HBW.out HB4.out) _).size); (case aL => have h1 := HIN.out.1; have h2 := HOL.out; show (1 + css.length) * 40 ≤ _; omega); intro v1 w6 ho hb hg hat; have HO6 := Aside0.mk ho; have HG6 := Aside0.mk hg; clear ho hb hg hat))
            have hbl : Below wr.heap.size wr w6 := (below_step HB4.out (below_alloc (Below.refl _ _) (.cells #[.int .u64 q, .int .u64 g, .slice A l.length c] 47))).grown HG6.out (Nat.le_trans HB4.out.size (by simp)) (fun k hk => by
              have : k = w4.heap.size := by simpa [Value.ownBlock] using hk.symm
              rw [this]; exact HB4.out.size)
            have HN6 := Aside0.mk (Kd.R_below HN.out hbl)
            have HOR := Aside0.mk (OutR.cons (e := ⟨q, g, l⟩) HIN.out HL.out HO6.out hbl)
            have HB6 := Aside0.mk (below_step HBW.out hbl)
            go_roundg k1
            case measure => have := HK1.out; omega
            case rel => exact ⟨setAll need l, ⟨q, g, l⟩ :: out, q - 1, rfl, HA, ⟨by have := HK1.out; omega⟩, HN6, HOR, HB6⟩
end Go.Proofs.Ytcphlhphdpjnfaa.Row05
end
section
namespace Go.Proofs.Ytcphlhphdpjnfaa.Row05
open Go Go.RowKit Go.Maps Go.Proofs.YtcphlhphdpjnfaaW.PrintWords Go.Proofs.YtcphlhphdpjnfaaW.PrintLast Go.Proofs.YtcphlhphdpjnfaaW.PrintMore Go.Proofs.Ytcphlhphdpjnfaa.Given Go.Proofs.Ytcphlhphdpjnfaa.M Go.Proofs.Ytcphlhphdpjnfaa.XS Go.Proofs.Ytcphlhphdpjnfaa.XT Go.Proofs.Ytcphlhphdpjnfaa.Given05 Go.Proofs.Ytcphlhphdpjnfaa.KeysU
def look (all : List S45) (q : Int) : S45 := (all.find? (fun e => e.f0 == q)).getD z45
def keysS (all : List S45) : List Int := (all.map fun e => e.f0).mergeSort (fun a b => decide (a ≤ b))
def okRow (all : List S45) : Prop := all.length ≤ 12 ∧ (all.map fun e => e.f0).Nodup ∧ ∀ e ∈ all, U e.f0
instance (all : List S45) : Decidable (okRow all) := by unfold okRow; infer_instance
def sieve_Row.f (k : Nat) (p : Int) : Option (List S45 × Int) := (sieve_odd.f k p).bind fun t => if t = true then ((gatherF k [] p).bind fun all => if okRow all then some ((keysS all).map (look all), 0) else none) else some ([], 1)
theorem keysS_perm (all : List S45) : (keysS all).Perm (all.map fun e => e.f0) := List.mergeSort_perm _ _
theorem keysS_sorted (all : List S45) : (keysS all).Pairwise (· ≤ ·) := by
  have := List.pairwise_mergeSort (le := fun a b : Int => decide (a ≤ b)) (fun a b c h1 h2 => by simp only [decide_eq_true_eq] at *; omega) (fun a b => by simp only [Bool.or_eq_true, decide_eq_true_eq]; omega) (all.map fun e => e.f0)
  exact this.imp fun h => by simpa using h
theorem keys_eq {all : List S45} (hn : (all.map fun e => e.f0).Nodup) {D : DataW Value} (hh : ∀ q, Maps.has D (.int .u64 q) = all.any (fun e => e.f0 == q)) {ss : List Int} (hk : KeysAre D ss) : ss.Perm (all.map fun e => e.f0) := by
  refine (List.perm_ext_iff_of_nodup hk.1 hn).2 fun x => ?_
  rw [hk.2 x, hh, List.any_eq_true, List.mem_map]
  exact ⟨fun ⟨e, h1, h2⟩ => ⟨e, h1, by simpa using h2⟩, fun ⟨e, h1, h2⟩ => ⟨e, h1, by simpa using h2⟩⟩
theorem sorted_eq {L L' : List Int} (h : L.Perm L') (h1 : L.Pairwise (· ≤ ·)) (h2 : L'.Pairwise (· ≤ ·)) : L = L' :=
  List.Perm.eq_of_pairwise (le := fun a b : Int => a ≤ b) (fun _ _ _ _ h1 h2 => Int.le_antisymm h1 h2) h1 h2 h
theorem look_of {all : List S45} {q : Int} (h : q ∈ all.map fun e => e.f0) : look all q ∈ all ∧ (look all q).f0 = q := by
  obtain ⟨e, he, hq⟩ := List.mem_map.1 h
  unfold look
  cases hf : all.find? (fun e => e.f0 == q) with
  | none => exact absurd (List.find?_eq_none.1 hf e he) (by simp [hq])
  | some x => exact ⟨List.mem_of_find?_eq_some hf, by simpa using List.find?_some hf⟩
theorem sorted_all {w3 : World} {base b : Nat} {f : Nat → Nat} {all : List S45} (hm : MapR w3 base b f all) (hok : okRow all) :
    Calls Try.prog 29 #[.func (.func 38) #[] #[.pointer (some ⟨w3.heap.size, 0, none⟩)]] (w3.alloc (.cells #[.map (some b)] 56)) fun e w5 =>
      ∃ A c, e = .returned (.slice A (keysS all).length c) ∧ Kd.R (Kd.int .u64) 26 w5 w3.heap.size (fun _ => True) (.slice A (keysS all).length c) (keysS all) ∧ Below w3.heap.size w3 w5 := by
  obtain ⟨D, n, ho, hn, hh, hE⟩ := hm.own
  have h12 : ∀ ss, KeysAre D ss → ss.length ≤ 12 := fun ss hss => by
    have := (keys_eq hok.2.1 hh hss).length_eq
    rw [List.length_map] at this
    have := hok.1
    omega
  have hN : Maps.size D ≤ 1000 := by have := ho.size_le; have := hok.1; omega
  refine (sorted_calls keys_enter (fun ss => KeysAre D ss) h12 (Maps.size D) hN _ (keys_gives_box b n D w3 ho)).mono ?_
  rintro e w5 ⟨v5, ss, L, rfl, hss, hp, hso, hr5, hb5⟩
  have hL : L = keysS all := sorted_eq (hp.trans ((keys_eq hok.2.1 hh hss).trans (keysS_perm all).symm)) hso (keysS_sorted all)
  subst hL
  obtain ⟨A5, c5, rfl⟩ := Kd.R_slice hr5
  exact ⟨A5, c5, rfl, Kd.R_lower hr5 (by simp), below_step (below_alloc (Below.refl _ _) _) hb5⟩
def okL (L : List Int) (i : Nat) (f : Nat → Nat) (N : Nat) (k : Nat) : Prop := (∃ q ∈ L.take i, f k = q.toNat) ∨ N ≤ k
theorem okL_next {L : List Int} {i : Nat} {f f3 : Nat → Nat} {N b : Nat} (hf : f = fun k => if k < N then f3 k else 18446744073709551616) (hn : L.Nodup) (hU : ∀ q ∈ L, U q) (hi : i < L.length) :
    (∀ k, f k = L[i].toNat ∧ k ≠ b → k < N) ∧ (∀ k, okL L i f N k → okL L (i + 1) f N k ∧ ¬ (f k = L[i].toNat ∧ k ≠ b)) ∧ (∀ k, f k = L[i].toNat ∧ k ≠ b → okL L (i + 1) f N k) := by
  have hm : L[i] ∈ L := List.getElem_mem hi
  have hu := hU _ hm
  have ht : L.take (i + 1) = L.take i ++ [L[i]] := List.take_succ_eq_append_getElem hi
  have h1 : ∀ k, f k = L[i].toNat ∧ k ≠ b → k < N := fun k hk => by
    refine Nat.lt_of_not_le fun c => ?_
    have := hk.1
    rw [hf] at this
    simp only [if_neg (show ¬ k < N by omega)] at this
    unfold U at hu
    omega
  refine ⟨h1, fun k hk => ⟨?_, fun hp => ?_⟩, fun k hk => .inl ⟨L[i], by rw [ht]; exact List.mem_append_right _ (List.mem_singleton.2 rfl), hk.1⟩⟩
  · rcases hk with ⟨q, hq, e⟩ | hk
    · exact .inl ⟨q, by rw [ht]; exact List.mem_append_left _ hq, e⟩
    · exact .inr hk
  · rcases hk with ⟨q, hq, e⟩ | hk
    · have hq' := hU q (List.mem_of_mem_take hq)
      rw [e] at hp
      have e2 : q = L[i] := by have := hp.1; unfold U at *; omega
      have := hn
      rw [← List.take_append_drop (i + 1) L, ht] at this
      have := (List.nodup_append.1 (List.nodup_append.1 this).1).2.2 q hq L[i] (by simp)
      exact this e2
    · have := h1 k hp; omega
theorem sieve_Row.calls_not {k : Nat} {p : Int} {w : World} (h : sieve_odd.f k p = some false) :
    Calls Try.prog 17 #[.int .u64 p] w fun e w' => ∃ v0_ : Value, e = .returned (.tuple #[v0_, .int .i64 1]) ∧ Kd.S k45 45 w' w.heap.size (fun _ => True) v0_ [] ∧ Below w.heap.size w w' := by
  have H1 := Aside0.mk h
  clear h
  go_enter Try.func17, Try.ntmps17
  go_wp2_with (go_at_call 22; (with_reducible refine (sieve_odd.calls k p false _ H1.out).mono ?_); rintro e w2 ⟨rfl, hb2⟩; have HB2 := Aside0.mk hb2; clear hb2)
  go_ret2
  exact ⟨_, rfl, Kd.S_nil _ _ _ _ _, HB2.out⟩
set_option maxRecDepth 100000 in
set_option maxHeartbeats 4000000 in
theorem sieve_Row.calls_odd {k : Nat} {p : Int} {all : List S45} {w : World} (h : sieve_odd.f k p = some true) (h2 : gatherF k [] p = some all) (hok : okRow all) :
    Calls Try.prog 17 #[.int .u64 p] w fun e w' => ∃ v0_ : Value, e = .returned (.tuple #[v0_, .int .i64 0]) ∧ Kd.S k45 45 w' w.heap.size (fun _ => True) v0_ ((keysS all).map (look all)) ∧ Below w.heap.size w w' := by
  have H1 := Aside0.mk h
  have H2 := Aside0.mk h2
  have HO := Aside0.mk hok
  have hmm := @run_makeMap Try.prog
  clear h h2 hok
  go_enter Try.func17, Try.ntmps17
  go_wp2_with (first
    | (go_at_call 22; (with_reducible refine (sieve_odd.calls k p true _ H1.out).mono ?_); rintro e w2 ⟨rfl, hb2⟩; have HB2 := Aside0.mk hb2; clear hb2)
    | (go_at_call 28; (with_reducible refine (gather_calls k [] all p _ w.heap.size w2.heap.size (fun _ => 0) ?hba H2.out ?hmr).mono ?_); (case hba => exact Nat.le_trans HB2.out.size (by simp)); (case hmr => exact MapR.made w2 _ _); rintro e w3 ⟨rfl, ⟨f3, hm3⟩, hg3⟩; have HM3 := Aside0.mk hm3; (have HB3 : Aside0 (Below w.heap.size w w3) := ⟨(below_alloc HB2.out _).grown hg3 (Nat.le_trans HB2.out.size (by simp)) (fun q e => by cases e; exact HB2.out.size)⟩); clear hm3 hg3 hmm)
    | (go_at_call 30; (with_reducible refine (keys_calls _ _).mono ?_); rintro e w4 ⟨rfl, rfl⟩)
    | (go_at_call 29; (with_reducible refine (sorted_all HM3.out HO.out).mono ?_); rintro e w5 ⟨A5, c5, rfl, hr5, hb5⟩; have HR5 := Aside0.mk hr5; have HB5 := Aside0.mk hb5; clear hr5 hb5))
  have HN : Aside0 ((keysS all).Nodup) := ⟨(keysS_perm all).nodup_iff.2 HO.out.2.1⟩
  have HU : Aside0 (∀ q ∈ keysS all, U q) := ⟨fun q hq => by
    obtain ⟨e, he, h⟩ := List.mem_map.1 ((keysS_perm all).mem_iff.1 hq)
    rw [← h]; exact HO.out.2.2 e he⟩
  have HK : Aside0 (∀ q ∈ keysS all, look all q ∈ all ∧ (look all q).f0 = q) := ⟨fun q hq => look_of ((keysS_perm all).mem_iff.1 hq)⟩
  have HL12 : Aside0 ((keysS all).length ≤ 12) := ⟨by have := (keysS_perm all).length_eq; rw [List.length_map] at this; have := HO.out.1; omega⟩
  obtain ⟨L, hL⟩ : ∃ L, keysS all = L := ⟨_, rfl⟩
  rw [hL] at HN HU HK HL12 HR5 ⊢
  obtain ⟨f1, hf1⟩ : ∃ f1 : Nat → Nat, f1 = fun k => if k < w5.heap.size then f3 k else 18446744073709551616 := ⟨_, rfl⟩
  have HF := Aside0.mk hf1
  have HM5 : Aside0 (MapR w5 w.heap.size w2.heap.size f1 all) := ⟨(HM3.out.below HB5.out).retag fun k hk => by rw [hf1]; exact if_pos hk⟩
  have HBW5 : Aside0 (Below w.heap.size w w5) := ⟨below_step HB3.out HB5.out⟩
  have HLE := Aside0.mk hL
  clear hL hf1 HM3 HB3 HB5
  go_loopw [5, 19] (fun v5 v19 wr => ∃ i : Nat, v19 = .int .i64 i ∧ i ≤ L.length ∧ Aside0 (Kd.S k45 45 wr w.heap.size (okL L i f1 w5.heap.size) v5 ((L.take i).map (look all))) ∧ Aside0 (∀ k, v5.ownBlock = some k → w5.heap.size ≤ k) ∧ Aside0 (Below w5.heap.size w5 wr)) (fun _ v19 _ => L.length - (intOf v19).toNat)
  case atStart => exact ⟨0, rfl, Nat.zero_le _, ⟨Kd.S_nil _ _ _ _ _⟩, ⟨fun k hk => by simp [Value.ownBlock] at hk⟩, ⟨Below.refl _ _⟩⟩
  case round =>
    obtain ⟨i, rfl, hi, HS, HOW, HBW⟩ := hrel
    have hl12 := HL12.out
    by_cases hlt : i < L.length
    · have c3b0 : decide ((i : Int) < (L.length : Int)) = true := decide_eq_true (by omega)
      have c3b1 : decide (i < L.length) = true := decide_eq_true hlt
      have p1 : 0 ≤ (i : Int) := by omega
      have q1 : (i : Int) < (L.length : Int) := by omega
      obtain ⟨e0, he0⟩ : ∃ e0, look all L[i] = e0 := ⟨_, rfl⟩
      obtain ⟨hmem, hq⟩ := HK.out L[i] (List.getElem_mem hlt)
      rw [he0] at hmem hq
      have hwf := wf_of_U (HO.out.2.2 e0 hmem)
      have HMr := HM5.out.below HBW.out
      obtain ⟨v, _, hrun, hr⟩ := HMr.hit hwf hmem
      obtain ⟨Ae, ce, rfl⟩ := Kd.R_slice hr
      have HR := Aside0.mk hr
      obtain ⟨ad, cc, rfl, _, hK, hcell⟩ := Kd.C_get (Kd.R_reads' (Kd.R_below HR5.out HBW.out)).2.2 (0 : Int) (i : Int) p1 q1
      have hx0 : wr.cell? (ad.add i) = some (.int .u64 e0.f0) := by
        have hcc : cc = [.int .u64 (L.getD (i : Int).toNat 0)] := hK
        have := hcell 0 (.int .u64 (L.getD (i : Int).toNat 0)) (by rw [hcc]; rfl)
        rw [Int.toNat_natCast, List.getD_eq_getElem?_getD, List.getElem?_eq_getElem hlt] at this
        rw [hq]
        simpa [Kd.int, Kd.scalar] using this
      obtain ⟨o1, o2, o3⟩ := okL_next (b := w2.heap.size) HF.out HN.out HU.out hlt
      rw [← hq] at o1 o2 o3
      have O1 := Aside0.mk o1
      have O2 := Aside0.mk o2
      have O3 := Aside0.mk o3
      have hlen2 : ((L.take i).map (look all)).length = i := by rw [List.length_map, List.length_take]; omega
      have HLN := Aside0.mk hlen2
      have hnext : (L.take (i + 1)).map (look all) = (L.take i).map (look all) ++ [e0] := by rw [List.take_succ_eq_append_getElem hlt, List.map_append, ← he0]; rfl
      have HNX := Aside0.mk hnext
      have HLT := Aside0.mk hlt
      have HBY : Aside0 (Below w.heap.size w wr) := ⟨below_step HBW5.out HBW.out⟩
      clear hmem he0 hq hi hK hcell hr HMr o1 o2 o3 hlen2 hnext hlt hl12 hwf
      go_wp2_with ((with_reducible refine gate_builtin (b := .append) (xs := #[.tmp 23, .tmp 27]) rfl ?_); at_builtin; (refine Kd.S_append k45 (w0 := w) w.heap.size rfl (.tmp 23) (.tmp 27) 38 45 (.agg #[(.int .u64 0), (.int .u64 0), (.slice none 0 0)]) 40 rfl Try.underlying38 info45 rfl (by decide) (by omega) _ ((L.take i).map (look all)) e0 [.int .u64 e0.f0, .int .u64 e0.f1, .slice Ae e0.f2.length ce] (okL L (i + 1) f1 w5.heap.size) (fun k => f1 k = e0.f0.toNat ∧ k ≠ w2.heap.size) rfl rfl ?aP ?aK ?aF ?aO ?aB ?aS ?aL ?_); (case aP => exact k45_mkM _ _ _ e0 HR.out); (case aK => exact fun k hk => ⟨O3.out k hk, fun c => by have := HOW.out k c.symm; have := O1.out k hk; omega⟩); (case aF => exact fun k hk => .inr (Nat.le_trans HBW.out.size hk)); (case aO => exact Kd.S_mono HS.out O2.out); (case aB => exact HBY.out); (case aS => exact HBY.out.size); (case aL => have := HLN.out; have := HLT.out; have := HL12.out; omega); intro v1 w6 ho hb hg hat; have HO6 := Aside0.mk ho; have HG6 := Aside0.mk hg; have HAT := Aside0.mk hat; clear ho hb hg hat)
      have HG : Aside0 (Below w5.heap.size w5 w6) := ⟨HBW.out.grown HG6.out HBW.out.size HOW.out⟩
      rw [← HNX.out] at HO6
      go_roundw
      case rel => exact ⟨i + 1, by have := HLT.out; have := HL12.out; exact congrArg (Value.int .i64) ((w64_id ((i : Int) + 1) (by omega) (by omega)).trans rfl), HLT.out, HO6, ⟨fun k hk => by
        rcases HAT.out with c | ⟨q, c, hq⟩
        · rw [c] at hk; exact HOW.out k hk
        · rw [c] at hk; cases hk; exact Nat.le_trans HBW.out.size hq⟩, HG⟩
      case measure =>
        have := HLT.out
        have := HL12.out
        rw [w64_id ((i : Int) + 1) (by omega) (by omega)]
        simp [intOf]; omega
    · have c3b0 : decide ((i : Int) < (L.length : Int)) = false := decide_eq_false (by omega)
      have c3b1 : decide (i < L.length) = false := decide_eq_false hlt
      have hr : (L.take i).map (look all) = L.map (look all) := by rw [List.take_of_length_le (by omega)]
      rw [hr] at HS
      clear hlt hr hi hl12
      go_wp2
      go_ret2
      refine ⟨_, rfl, ?_, below_step HBW5.out HBW.out⟩
      rw [HLE.out]
      exact Kd.S_mono HS.out (fun _ _ => trivial)
theorem sieve_Row.calls (k : Nat) (a0 : Int) (r : List S45) (r2 : Int) (w : World) (h : sieve_Row.f k a0 = some (r, r2)) :
    Calls Try.prog 17 #[.int .u64 a0] w fun e w' => ∃ v0_ : Value, e = .returned (.tuple #[v0_, .int .i64 r2]) ∧ Kd.S k45 45 w' w.heap.size (fun _ => True) v0_ r ∧ Below w.heap.size w w' := by
  unfold sieve_Row.f at h
  obtain ⟨t, h1, h⟩ := Option.bind_eq_some_iff.1 h
  cases t with
  | false =>
    rw [if_neg Bool.false_ne_true] at h
    obtain ⟨rfl, rfl⟩ := Prod.mk.inj (Option.some.inj h)
    exact sieve_Row.calls_not h1
  | true =>
    rw [if_pos rfl] at h
    obtain ⟨all, h2, h⟩ := Option.bind_eq_some_iff.1 h
    split at h
    case isFalse => cases h
    rename_i hok
    obtain ⟨rfl, rfl⟩ := Prod.mk.inj (Option.some.inj h)
    exact sieve_Row.calls_odd h1 h2 hok
end Go.Proofs.Ytcphlhphdpjnfaa.Row05
end
section
namespace Go.Proofs.Ytcphlhphdpjnfaa.Row05
open Go Go.RowKit Go.Proofs.YtcphlhphdpjnfaaW.PrintWords Go.Proofs.YtcphlhphdpjnfaaW.PrintLast Go.Proofs.YtcphlhphdpjnfaaW.PrintMore Go.Proofs.Ytcphlhphdpjnfaa.Given Go.Proofs.Ytcphlhphdpjnfaa.M Go.Proofs.Ytcphlhphdpjnfaa.XS Go.Proofs.Ytcphlhphdpjnfaa.XT Go.Proofs.Ytcphlhphdpjnfaa.Given05 Go.Proofs.Ytcphlhphdpjnfaa.Num Go.Proofs.Ytcphlhphdpjnfaa.Count05
def OddN (p : Nat) : Prop := 3 ≤ p ∧ p ≤ 65536 ∧ Prime p
theorem OddN.int {p : Nat} (h : OddN p) : OddP (p : Int) := ⟨by have := h.1; omega, by have := h.2.1; omega, h.2.2⟩
theorem OddN.of {p : Nat} (h : OddP (p : Int)) : OddN p := ⟨by have := h.1; omega, by have := h.2.1; omega, h.2.2⟩
theorem OddN.odd {p : Nat} (h : OddN p) : p % 2 = 1 := by
  refine Classical.byContradiction fun c => ?_
  rcases h.2.2.2 2 (Nat.dvd_of_mod_eq_zero (by omega)) with e | e
  · omega
  · have := h.1; omega
open Classical in
/-- The least primitive root; the factors of p - 1. -/
noncomputable def gen (p : Nat) : Nat := if h : ∃ r, Least p r then h.choose else 0
open Classical in
noncomputable def facs (p : Nat) : List (Nat × Nat) := if h : ∃ l, Facs 2 (p - 1) l ∧ Ev (fun k => sieve_Factor.f k ((p - 1 : Nat) : Int)) (m33 l) ∧ Ev (fun k => epicycleref05_Factor.f k ((p - 1 : Nat) : Int)) (m34 l) then h.choose else []
theorem gen_least {p : Nat} (h : OddN p) : Least p (gen p) := by
  have e := XS.exists_least h.2.2 h.1
  unfold gen
  rw [dif_pos e]
  exact e.choose_spec
theorem facs_of {p : Nat} (h : OddN p) : Facs 2 (p - 1) (facs p) ∧ Ev (fun k => sieve_Factor.f k ((p - 1 : Nat) : Int)) (m33 (facs p)) ∧ Ev (fun k => epicycleref05_Factor.f k ((p - 1 : Nat) : Int)) (m34 (facs p)) := by
  have e := Factor_both (p - 1) (by have := h.1; omega) (by have := h.2.1; omega)
  unfold facs
  rw [dif_pos e]
  exact e.choose_spec
noncomputable def entS (p : Nat) : S45 := ⟨(p : Int), (gen p : Int), m33 (facs p)⟩
structure Good (ps : List Nat) (n : Nat) : Prop where
  odd : ∀ q ∈ ps, OddN q
  nodup : ps.Nodup
  closed : ∀ q ∈ ps.drop n, ∀ x ∈ facs q, x.1 = 2 ∨ x.1 ∈ ps
theorem any_ps (ps : List Nat) (p : Nat) : (ps.map entS).any (fun e => e.f0 == (p : Int)) = decide (p ∈ ps) := by
  rw [Bool.eq_iff_iff, List.any_eq_true, decide_eq_true_eq]
  constructor
  · rintro ⟨e, he, h⟩
    obtain ⟨q, hq, rfl⟩ := List.mem_map.1 he
    have h : ((q : Int) == (p : Int)) = true := h
    rw [beq_iff_eq] at h
    rw [show p = q by omega]; exact hq
  · intro h
    exact ⟨entS p, List.mem_map_of_mem h, by show ((p : Int) == (p : Int)) = true; exact beq_self_eq_true _⟩
theorem gather_two {all : List S45} : Ev (fun k => gatherF k all 2) all := by
  refine Ev.step (f := fun _ => some all) (fun k => ?_) (Ev.now _)
  unfold gatherF
  rw [if_pos (by unfold U; omega)]
  split
  · rfl
  · rw [if_pos rfl]
theorem gather_in {ps : List Nat} {p : Nat} (h : p ∈ ps) (hp : OddN p) : Ev (fun k => gatherF k (ps.map entS) (p : Int)) (ps.map entS) := by
  refine Ev.step (f := fun _ => some (ps.map entS)) (fun k => ?_) (Ev.now _)
  unfold gatherF
  have := hp.2.1
  rw [if_pos (by unfold U; omega), if_pos (by rw [any_ps]; exact decide_eq_true h)]
theorem gather_new {ps : List Nat} {p : Nat} {R : List S45} (h : p ∉ ps) (hp : OddN p) (hl : ps.length < 1000) (E : Ev (fun k => gatherL k ((ps ++ [p]).map entS) (m33 (facs p))) R) : Ev (fun k => gatherF k (ps.map entS) (p : Int)) R := by
  have h1 := hp.1
  have h2 := hp.2.1
  have hw : IntKind.u64.wrap ((p : Int) - 1) = ((p - 1 : Nat) : Int) := by rw [wu64_id _ (by omega) (by omega)]; omega
  refine Ev.step (f := fun k => (sieve_Factor.f k ((p - 1 : Nat) : Int)).bind fun l => (sieve_Generator.f k (p : Int)).bind fun g => if (ps.map entS).length < 1000 then gatherL k (ps.map entS ++ [⟨(p : Int), g, l⟩]) l else none) (fun k => ?_) ?_
  · unfold gatherF
    rw [if_pos (by unfold U; omega), if_neg (by rw [any_ps, decide_eq_true_eq]; exact h), if_neg (by omega), hw]
  · refine Ev.bind (facs_of hp).2.1 (Ev.bind (Generator_odd hp.int (gen_least hp)) (evP (by rw [List.length_map]; exact hl) ?_))
    rw [List.map_append] at E
    exact E
theorem gatherL_nil {all : List S45} : Ev (fun k => gatherL k all []) all := by
  refine Ev.step (f := fun _ => some all) (fun k => ?_) (Ev.now _)
  unfold gatherL
  rfl
theorem gatherL_cons {all a R : List S45} {x : Nat × Nat} {l : List (Nat × Nat)} (h1 : Ev (fun k => gatherF k all (x.1 : Int)) a) (h2 : Ev (fun k => gatherL k a (m33 l)) R) : Ev (fun k => gatherL k all (m33 (x :: l))) R := by
  refine Ev.step (f := fun k => (gatherF k all (x.1 : Int)).bind fun a => gatherL k a (m33 l)) (fun k => ?_) (Ev.bind h1 h2)
  show gatherL (k + 1) all ((⟨(x.1 : Int), (x.2 : Int)⟩ : S33) :: m33 l) = _
  simp only [gatherL]
theorem fac_odd {p : Nat} (hp : OddN p) {x : Nat × Nat} (hx : x ∈ facs p) : x.1 < p ∧ (x.1 = 2 ∨ OddN x.1) := by
  have hf := (facs_of hp).1
  have h1 := hp.1
  have h2 := hp.2.1
  have hd := Nat.le_of_dvd (by omega) (hf.le (by omega) hx)
  have pr := (hf.1 x hx).1
  refine ⟨by omega, ?_⟩
  have := pr.1
  by_cases c : x.1 = 2
  · exact .inl c
  · exact .inr ⟨by omega, by omega, pr⟩
theorem gather_ev (k : Nat) : ∀ (p : Nat) (ps : List Nat), (p = 2 ∨ OddN p) → Good ps ps.length → ps.length + sz k p < 1000 →
    ∃ xs, xs.length ≤ sz k p ∧ (∀ q ∈ xs, q ≤ p) ∧ (p = 2 ∨ p ∈ ps ++ xs) ∧ Good (ps ++ xs) ps.length ∧ Ev (fun k => gatherF k (ps.map entS) (p : Int)) ((ps ++ xs).map entS) ∧ (∀ q ∈ xs, q = p ∨ ∃ s ∈ ps ++ xs, ∃ x ∈ facs s, x.1 = q) := by
  induction k with
  | zero =>
    intro p ps _ _ h
    have : sz 0 p = 1000 := rfl
    omega
  | succ k ih =>
    intro p ps hp hg hs
    rcases hp with rfl | hp
    · refine ⟨[], Nat.zero_le _, by simp, .inl rfl, by rw [List.append_nil]; exact hg, ?_, by simp⟩
      rw [List.append_nil]; exact gather_two
    by_cases hin : p ∈ ps
    · refine ⟨[], Nat.zero_le _, by simp, .inr (by rw [List.append_nil]; exact hin), by rw [List.append_nil]; exact hg, ?_, by simp⟩
      rw [List.append_nil]; exact gather_in hin hp
    have hf := (facs_of hp).1
    have hsf := sz_facs (k := k) hp.1 hf (by omega)
    -- the factors, one behind the other
    have key : ∀ (l : List (Nat × Nat)), (∀ x ∈ l, x ∈ facs p) → ∀ qs : List Nat, (∀ q ∈ qs, OddN q) → qs.Nodup → qs.length + sumL (sz k) (l.map fun x => x.1) < 1000 →
        ∃ ys, ys.length ≤ sumL (sz k) (l.map fun x => x.1) ∧ (∀ q ∈ ys, q < p) ∧ (∀ x ∈ l, x.1 = 2 ∨ x.1 ∈ qs ++ ys) ∧ Good (qs ++ ys) qs.length ∧ Ev (fun k => gatherL k (qs.map entS) (m33 l)) ((qs ++ ys).map entS) ∧ (∀ q ∈ ys, (∃ x ∈ l, x.1 = q) ∨ ∃ s ∈ qs ++ ys, ∃ x ∈ facs s, x.1 = q) := by
      intro l
      induction l with
      | nil =>
        intro _ qs ho hn _
        refine ⟨[], Nat.zero_le _, by simp, by simp, by rw [List.append_nil]; exact ⟨ho, hn, by simp⟩, ?_, by simp⟩
        rw [List.append_nil]; exact gatherL_nil
      | cons x l ihl =>
        intro hsub qs ho hn hlen
        rw [List.map_cons, sumL_cons] at hlen
        have hx := fac_odd hp (hsub x List.mem_cons_self)
        obtain ⟨ys, l1, l2, l3, l4, l5, l6⟩ := ih x.1 qs hx.2 ⟨ho, hn, by simp⟩ (by omega)
        obtain ⟨zs, m1, m2, m3, m4, m5, m6⟩ := ihl (fun y hy => hsub y (List.mem_cons_of_mem _ hy)) (qs ++ ys) l4.odd l4.nodup (by rw [List.length_append]; omega)
        refine ⟨ys ++ zs, by rw [List.length_append, List.map_cons, sumL_cons]; omega, fun q hq => ?_, fun y hy => ?_, ?_, ?_, fun q hq => ?_⟩
        · rcases List.mem_append.1 hq with h | h
          · have := l2 q h; omega
          · exact m2 q h
        · rw [← List.append_assoc]
          rcases List.mem_cons.1 hy with rfl | hy
          · rcases l3 with h | h
            · exact .inl h
            · exact .inr (List.mem_append_left _ h)
          · exact m3 y hy
        · rw [← List.append_assoc]
          refine ⟨m4.odd, m4.nodup, fun q hq y hy => ?_⟩
          rw [List.append_assoc, List.drop_left] at hq
          rcases List.mem_append.1 hq with h | h
          · rcases l4.closed q (by rw [List.drop_left]; exact h) y hy with e | e
            · exact .inl e
            · exact .inr (List.mem_append_left _ e)
          · exact m4.closed q (by rw [List.drop_left]; exact h) y hy
        · rw [← List.append_assoc]
          exact gatherL_cons l5 m5
        · rw [← List.append_assoc]
          rcases List.mem_append.1 hq with h | h
          · rcases l6 q h with e | ⟨s, hs, e⟩
            · exact .inl ⟨x, List.mem_cons_self, e.symm⟩
            · exact .inr ⟨s, List.mem_append_left _ hs, e⟩
          · rcases m6 q h with ⟨y, hy, e⟩ | e
            · exact .inl ⟨y, List.mem_cons_of_mem _ hy, e⟩
            · exact .inr e
    obtain ⟨ys, l1, l2, l3, l4, l5, l6⟩ := key (facs p) (fun x hx => hx) (ps ++ [p]) (fun q hq => by
      rcases List.mem_append.1 hq with h | h
      · exact hg.odd q h
      · have : q = p := by simpa using h
        rw [this]; exact hp) (List.nodup_append.2 ⟨hg.nodup, by simp, fun a ha b hb => by
        have : b = p := by simpa using hb
        rintro rfl
        exact hin (this ▸ ha)⟩) (by rw [List.length_append]; show ps.length + 1 + _ < 1000; omega)
    refine ⟨p :: ys, by show ys.length + 1 ≤ _; omega, fun q hq => ?_, .inr (by simp), ?_, ?_, fun q hq => ?_⟩
    · rcases List.mem_cons.1 hq with rfl | h
      · omega
      · have := l2 q h; omega
    · have e : ps ++ p :: ys = ps ++ [p] ++ ys := by simp
      refine ⟨e ▸ l4.odd, e ▸ l4.nodup, fun q hq x hx => ?_⟩
      rw [List.drop_left] at hq
      rw [e]
      rcases List.mem_cons.1 hq with rfl | h
      · exact l3 x hx
      · exact l4.closed q (by rw [List.drop_left]; exact h) x hx
    · have e : ps ++ p :: ys = ps ++ [p] ++ ys := by simp
      rw [e]
      exact gather_new hin hp (by omega) l5
    · have e : ps ++ p :: ys = ps ++ [p] ++ ys := by simp
      rw [e]
      rcases List.mem_cons.1 hq with h | h
      · exact .inl h
      · rcases l6 q h with ⟨x, hx, e'⟩ | e'
        · exact .inr ⟨p, by simp, x, hx, e'⟩
        · exact .inr e'
end Go.Proofs.Ytcphlhphdpjnfaa.Row05
end
section
namespace Go.Proofs.Ytcphlhphdpjnfaa.XT
open Go.RowKit Go.Proofs.Ytcphlhphdpjnfaa.Given Go.Proofs.Ytcphlhphdpjnfaa.Given05 Go.Proofs.Ytcphlhphdpjnfaa.XS Go.Proofs.Ytcphlhphdpjnfaa.Given04 Go.Proofs.Ytcphlhphdpjnfaa.Row05 Go.Proofs.YtcphlhphdpjnfaaW.PrintWords Go.Proofs.YtcphlhphdpjnfaaW.PrintLast Go.Proofs.YtcphlhphdpjnfaaW.PrintMore
attribute [local go_sem] max2_int min2_int max_two min_two max_three min_three max_four min_four   -- for this text's walks alone
set_option linter.unusedVariables false
set_option linter.unusedSimpArgs false
end Go.Proofs.Ytcphlhphdpjnfaa.XT
end
section
namespace Go.Proofs.Ytcphlhphdpjnfaa.XT
open Go.RowKit Go.Proofs.Ytcphlhphdpjnfaa.Given Go.Proofs.Ytcphlhphdpjnfaa.Given05 Go.Proofs.Ytcphlhphdpjnfaa.XS Go.Proofs.Ytcphlhphdpjnfaa.Given04 Go.Proofs.Ytcphlhphdpjnfaa.Row05 Go.Proofs.YtcphlhphdpjnfaaW.PrintWords Go.Proofs.YtcphlhphdpjnfaaW.PrintLast Go.Proofs.YtcphlhphdpjnfaaW.PrintMore
attribute [local go_sem] max2_int min2_int max_two min_two max_three min_three max_four min_four   -- for this text's walks alone
set_option linter.unusedVariables false
set_option linter.unusedSimpArgs false
end Go.Proofs.Ytcphlhphdpjnfaa.XT
end
section
namespace Go.Proofs.Ytcphlhphdpjnfaa.XT
open Go.RowKit Go.Proofs.Ytcphlhphdpjnfaa.Given Go.Proofs.Ytcphlhphdpjnfaa.Given05 Go.Proofs.Ytcphlhphdpjnfaa.XS Go.Proofs.Ytcphlhphdpjnfaa.Given04 Go.Proofs.Ytcphlhphdpjnfaa.Row05 Go.Proofs.YtcphlhphdpjnfaaW.PrintWords Go.Proofs.YtcphlhphdpjnfaaW.PrintLast Go.Proofs.YtcphlhphdpjnfaaW.PrintMore
attribute [local go_sem] max2_int min2_int max_two min_two max_three min_three max_four min_four   -- for this text's walks alone
set_option linter.unusedVariables false
set_option linter.unusedSimpArgs false
end Go.Proofs.Ytcphlhphdpjnfaa.XT
end
section
namespace Go.Proofs.Ytcphlhphdpjnfaa.XT
open Go.Proofs.Ytcphlhphdpjnfaa.XS
open Go Go.RowKit Go.Proofs.YtcphlhphdpjnfaaW.PrintWords Go.Proofs.YtcphlhphdpjnfaaW.PrintLast Go.Proofs.YtcphlhphdpjnfaaW.PrintMore Go.Proofs.Ytcphlhphdpjnfaa.Given Go.Proofs.Ytcphlhphdpjnfaa.Given04 Go.Proofs.Ytcphlhphdpjnfaa.M Go.Proofs.Ytcphlhphdpjnfaa.Mont
def okP (x : Int × Int) : Prop := U x.1 ∧ -9223372036854775808 ≤ x.2 ∧ x.2 < 9223372036854775808
def okL (l : List (Int × Int)) : Prop := ∀ x ∈ l, okP x
def wr (A : Int → Bool) (m : Int) : Int → List (Int × Int) → Int → Bool
  | _, [], n => n == m
  | q, x :: l, n => (decide (1 ≤ x.2) && decide (x.2 ≤ 62)) && (decide (q < x.1) && A x.1) && wr A m x.1 l (n * x.1 ^ x.2.toNat)
section
variable {ahead : List S45} {F : List S33} {P G len : Int}
end
end Go.Proofs.Ytcphlhphdpjnfaa.XT
end
section
namespace Go.Proofs.Ytcphlhphdpjnfaa.XT
open Go.Proofs.Ytcphlhphdpjnfaa.XS
open Go Go.RowKit Go.Proofs.YtcphlhphdpjnfaaW.PrintWords Go.Proofs.YtcphlhphdpjnfaaW.PrintLast Go.Proofs.YtcphlhphdpjnfaaW.PrintMore Go.Proofs.Ytcphlhphdpjnfaa.Given Go.Proofs.Ytcphlhphdpjnfaa.Given04 Go.Proofs.Ytcphlhphdpjnfaa.M Go.Proofs.Ytcphlhphdpjnfaa.Mont
section
variable {ahead : List S45} {F : List S33} {P G : Int}
def fits (P G : Int) : Prop := P % 2 = 1 ∧ 3 ≤ P ∧ P < 9223372036854775808 ∧ 2 ≤ G ∧ G < P
instance : Decidable (fits P G) := by unfold fits; infer_instance
end
end Go.Proofs.Ytcphlhphdpjnfaa.XT
end
section
namespace Go.Proofs.Ytcphlhphdpjnfaa.XT
open Go.Proofs.Ytcphlhphdpjnfaa.XS
open Go Go.RowKit Go.Proofs.YtcphlhphdpjnfaaW.PrintWords Go.Proofs.YtcphlhphdpjnfaaW.PrintLast Go.Proofs.YtcphlhphdpjnfaaW.PrintMore Go.Proofs.Ytcphlhphdpjnfaa.Given Go.Proofs.Ytcphlhphdpjnfaa.Given04 Go.Proofs.Ytcphlhphdpjnfaa.M Go.Proofs.Ytcphlhphdpjnfaa.Mont Go.Proofs.Ytcphlhphdpjnfaa.Num
def Ordered (P G : Int) : Prop := 3 ≤ P ∧ ∀ x : Nat, G.toNat ^ x % P.toNat = 1 ↔ P.toNat - 1 ∣ x
theorem Ordered.prime {P G : Int} (h : Ordered P G) : Prime P.toNat := prime_of_order (by have := h.1; omega) h.2
end Go.Proofs.Ytcphlhphdpjnfaa.XT
end
section
namespace Go.Proofs.Ytcphlhphdpjnfaa.Row05
open Go Go.RowKit Go.Proofs.YtcphlhphdpjnfaaW.PrintWords Go.Proofs.YtcphlhphdpjnfaaW.PrintLast Go.Proofs.YtcphlhphdpjnfaaW.PrintMore Go.Proofs.Ytcphlhphdpjnfaa.Given Go.Proofs.Ytcphlhphdpjnfaa.M Go.Proofs.Ytcphlhphdpjnfaa.XS Go.Proofs.Ytcphlhphdpjnfaa.XT Go.Proofs.Ytcphlhphdpjnfaa.Given05 Go.Proofs.Ytcphlhphdpjnfaa.Given04 Go.Proofs.Ytcphlhphdpjnfaa.Num Go.Proofs.Ytcphlhphdpjnfaa.Count05
structure Rows (p : Nat) (ss : List Nat) : Prop where
  rising : ss.Pairwise (· < ·)
  odd : ∀ q ∈ ss, OddN q
  le : ∀ q ∈ ss, q ≤ p
  mem : p ∈ ss
  closed : ∀ q ∈ ss, ∀ x ∈ facs q, x.1 = 2 ∨ x.1 ∈ ss
  short : ss.length ≤ 12
  needed : ∀ q ∈ ss, q = p ∨ ∃ s ∈ ss, ∃ x ∈ facs s, x.1 = q
open Classical in
theorem row_ev {p : Nat} (hp : OddN p) : ∃ ss : List Nat, Rows p ss ∧ Ev (fun k => sieve_Row.f k (p : Int)) (ss.map entS, 0) := by
  have hsz := sz_le hp.1 hp.2.1 hp.odd
  obtain ⟨xs, l1, l2, l3, l4, l5, l6⟩ := gather_ev 17 p [] (.inr hp) ⟨by simp, by simp, by simp⟩ (by show 0 + _ < 1000; omega)
  rw [List.nil_append] at l3 l4 l5 l6
  have hpx : p ∈ xs := l3.resolve_left (by have := hp.1; omega)
  obtain ⟨ss, hss⟩ : ∃ ss, ss = xs.mergeSort (fun a b => decide (a ≤ b)) := ⟨_, rfl⟩
  have hperm : ss.Perm xs := hss ▸ List.mergeSort_perm _ _
  have hsorted : ss.Pairwise (· ≤ ·) := by
    have := List.pairwise_mergeSort (le := fun a b : Nat => decide (a ≤ b)) (fun a b c h1 h2 => by simp only [decide_eq_true_eq] at *; omega) (fun a b => by simp only [Bool.or_eq_true, decide_eq_true_eq]; omega) xs
    rw [hss]
    exact this.imp fun h => by simpa using h
  have hnd : ss.Nodup := hperm.nodup_iff.2 l4.nodup
  have hk : keysS (xs.map entS) = ss.map fun (q : Nat) => (q : Int) := by
    refine sorted_eq ((keysS_perm _).trans ?_) (keysS_sorted _) ?_
    · rw [List.map_map]
      exact (hperm.map _).symm
    · rw [List.pairwise_map]
      exact hsorted.imp fun h => by omega
  have hlook : (keysS (xs.map entS)).map (look (xs.map entS)) = ss.map entS := by
    rw [hk, List.map_map]
    refine List.map_congr_left fun q hq => ?_
    have hq' : (q : Int) ∈ (xs.map entS).map fun e => e.f0 := by
      rw [List.map_map]
      exact List.mem_map.2 ⟨q, hperm.mem_iff.1 hq, rfl⟩
    obtain ⟨h1, h2⟩ := look_of hq'
    obtain ⟨q', _, h3⟩ := List.mem_map.1 h1
    show look (xs.map entS) (q : Int) = entS q
    rw [← h3] at h2 ⊢
    have h2 : (q' : Int) = (q : Int) := h2
    rw [show q' = q by omega]
  have hok : okRow (xs.map entS) := by
    refine ⟨by rw [List.length_map]; omega, ?_, fun e he => ?_⟩
    · rw [List.map_map, List.nodup_iff_pairwise_ne, List.pairwise_map]
      refine (List.nodup_iff_pairwise_ne.1 l4.nodup).imp ?_
      intro a b h h'
      have h' : (a : Int) = (b : Int) := h'
      omega
    · obtain ⟨q, hq, rfl⟩ := List.mem_map.1 he
      have := (l4.odd q hq).2.1
      show U (q : Int)
      unfold U; omega
  refine ⟨ss, ⟨hsorted.imp₂ (fun a b h h' => Nat.lt_of_le_of_ne h h') (List.nodup_iff_pairwise_ne.1 hnd), fun q hq => l4.odd q (hperm.mem_iff.1 hq), fun q hq => l2 q (hperm.mem_iff.1 hq), hperm.mem_iff.2 hpx, fun q hq x hx => ?_, by rw [hperm.length_eq]; omega, fun q hq => ?_⟩, ?_⟩
  · rcases l4.closed q (hperm.mem_iff.1 hq) x hx with e | e
    · exact .inl e
    · exact .inr (hperm.mem_iff.2 e)
  · rcases l6 q (hperm.mem_iff.1 hq) with e | ⟨s, hs, e⟩
    · exact .inl e
    · exact .inr ⟨s, hperm.mem_iff.2 hs, e⟩
  · have O := odd_ev (p : Int)
    rw [decide_eq_true hp.int] at O
    refine Ev.congr (fun k => rfl) (Ev.bind O (evP rfl (Ev.bind l5 ?_)))
    rw [hlook]
    exact evP hok (Ev.now _)
open Classical in
theorem row_not {x : Int} (h : ¬ OddP x) : Ev (fun k => sieve_Row.f k x) ([], 1) := by
  have O := odd_ev x
  rw [decide_eq_false h] at O
  exact Ev.congr (fun k => rfl) (Ev.bind O (evN (by decide) (Ev.now _)))
theorem prod_ge {l : List (Nat × Nat)} (h : ∀ x ∈ l, 2 ≤ x.1 ∧ 1 ≤ x.2) : 2 ^ l.length ≤ prod l := by
  induction l with
  | nil => exact Nat.le_refl 1
  | cons x l ih =>
    have a := ih fun y hy => h y (List.mem_cons_of_mem _ hy)
    obtain ⟨b, c⟩ := h x List.mem_cons_self
    have : 2 ≤ x.1 ^ x.2 := by
      have h1 := Nat.pow_le_pow_right (show 0 < x.1 by omega) c
      rw [Nat.pow_one] at h1
      omega
    show 2 ^ (l.length + 1) ≤ x.1 ^ x.2 * prod l
    rw [Nat.pow_succ, Nat.mul_comm]
    exact Nat.mul_le_mul this a
end Go.Proofs.Ytcphlhphdpjnfaa.Row05
end
section
namespace Go.Proofs.Ytcphlhphdpjnfaa.Row05
open Go Go.RowKit Go.Proofs.YtcphlhphdpjnfaaW.PrintWords Go.Proofs.YtcphlhphdpjnfaaW.PrintLast Go.Proofs.YtcphlhphdpjnfaaW.PrintMore Go.Proofs.Ytcphlhphdpjnfaa.Given Go.Proofs.Ytcphlhphdpjnfaa.M Go.Proofs.Ytcphlhphdpjnfaa.XS Go.Proofs.Ytcphlhphdpjnfaa.XT Go.Proofs.Ytcphlhphdpjnfaa.Given05 Go.Proofs.Ytcphlhphdpjnfaa.Num
noncomputable def entR (p : Nat) : rE := ⟨(p : Int), (gen p : Int), m34 (facs p)⟩
theorem getD_set (l : List Bool) (i j : Nat) (h : i < l.length) : (l.set i true).getD j false = true ↔ l.getD j false = true ∨ i = j := by
  by_cases e : i = j
  · subst e
    rw [List.getD_eq_getElem?_getD, List.getElem?_set_self h]
    exact ⟨fun _ => .inr rfl, fun _ => rfl⟩
  · rw [List.getD_eq_getElem?_getD, List.getElem?_set_ne e, ← List.getD_eq_getElem?_getD]
    exact ⟨.inl, fun h => h.resolve_right e⟩
theorem setAll_get (l : List (Nat × Nat)) : ∀ (need : List Bool) (j : Nat), (∀ x ∈ l, x.1 < need.length) → ((setAll need (m34 l)).getD j false = true ↔ need.getD j false = true ∨ ∃ x ∈ l, x.1 = j) := by
  induction l with
  | nil => intro need j _; exact ⟨.inl, fun h => h.elim id fun ⟨x, hx, _⟩ => by cases hx⟩
  | cons x l ih =>
    intro need j h
    show (setAll (need.set ((x.1 : Int)).toNat true) (m34 l)).getD j false = true ↔ _
    rw [Int.toNat_natCast, ih _ _ (fun y hy => by rw [List.length_set]; exact h y (List.mem_cons_of_mem _ hy)), getD_set _ _ _ (h x List.mem_cons_self)]
    constructor
    · rintro ((a | a) | ⟨y, hy, e⟩)
      · exact .inl a
      · exact .inr ⟨x, List.mem_cons_self, a⟩
      · exact .inr ⟨y, List.mem_cons_of_mem _ hy, e⟩
    · rintro (a | ⟨y, hy, e⟩)
      · exact .inl (.inl a)
      · rcases List.mem_cons.1 hy with rfl | hy
        · exact .inl (.inr e)
        · exact .inr ⟨y, hy, e⟩
theorem filter_in {ss : List Nat} {q : Nat} (hs : ss.Pairwise (· < ·)) (h : q + 1 ∈ ss) : ss.filter (fun s => decide (q < s)) = (q + 1) :: ss.filter (fun s => decide (q + 1 < s)) := by
  induction ss with
  | nil => cases h
  | cons x ss ih =>
    obtain ⟨h1, h2⟩ := List.pairwise_cons.1 hs
    rcases List.mem_cons.1 h with e | e
    · subst e
      rw [List.filter_cons_of_pos (by simp), List.filter_cons_of_neg (by simp)]
      congr 1
      exact List.filter_congr fun s hs' => by have := h1 s hs'; rw [decide_eq_true (by omega), decide_eq_true (by omega)]
    · have := h1 _ e
      rw [List.filter_cons_of_neg (by simp; omega), List.filter_cons_of_neg (by simp; omega)]
      exact ih h2 e
theorem filter_out {ss : List Nat} {q : Nat} (h : q + 1 ∉ ss) : ss.filter (fun s => decide (q < s)) = ss.filter (fun s => decide (q + 1 < s)) :=
  List.filter_congr fun s hs => by
    have : s ≠ q + 1 := fun e => h (e ▸ hs)
    by_cases c : q < s
    · rw [decide_eq_true c, decide_eq_true (by omega)]
    · rw [decide_eq_false c, decide_eq_false (by omega)]
theorem facs_short {p : Nat} (hp : OddN p) : (facs p).length < 1000 := by
  obtain ⟨f1, _, f3⟩ := (facs_of hp).1
  have h3 := hp.1
  have h6 := hp.2.1
  have hlen := prod_ge (l := facs p) fun x hx => ⟨(f1 x hx).1.1, (f1 x hx).2.2⟩
  refine Nat.lt_of_not_le fun c => ?_
  have := Nat.pow_le_pow_right (show 0 < 2 by decide) (show 16 ≤ (facs p).length by omega)
  rw [show 2 ^ 16 = 65536 by decide] at this
  omega
theorem rrF_succ (k : Nat) (need : List Bool) (out : List rE) (q : Int) : rrF (k + 1) need out q = if 2 < q then (if U q ∧ q < (need.length : Int) then (if rdOf false need q = false then rrF k need out (q - 1) else
      (epicycleref05_Factor.f k (q - 1)).bind fun l => if okNeed need l ∧ l.length < 1000 then ((epicycleref05_Generator.f k q).bind fun g => if out.length < 1000 then rrF k (setAll need l) (⟨q, g, l⟩ :: out) (q - 1) else none) else none) else none) else some out := rfl
theorem rr_ev {p : Nat} {ss : List Nat} (h : Rows p ss) (hp : OddN p) : ∀ (q : Nat) (need : List Bool), q ≤ p → need.length = 65537 →
    (∀ j, 2 < j → j ≤ q → (need.getD j false = true ↔ j = p ∨ ∃ s ∈ ss, q < s ∧ ∃ x ∈ facs s, x.1 = j)) →
    Ev (fun k => rrF k need ((ss.filter fun s => decide (q < s)).map entR) (q : Int)) (ss.map entR) := by
  have h6 := hp.2.1
  intro q
  induction q with
  | zero =>
    intro need _ _ _
    have e : (ss.filter fun s => decide (0 < s)) = ss := List.filter_eq_self.2 fun s hs => by have := (h.odd s hs).1; exact decide_eq_true (by omega)
    rw [e]
    refine Ev.step (f := fun _ => some (ss.map entR)) (fun k => ?_) (Ev.now _)
    rw [rrF_succ, if_neg (by omega)]
  | succ q ih =>
    intro need hq hl hI
    by_cases c2 : q + 1 ≤ 2
    · have e : (ss.filter fun s => decide (q + 1 < s)) = ss := List.filter_eq_self.2 fun s hs => by have := (h.odd s hs).1; exact decide_eq_true (by omega)
      rw [e]
      refine Ev.step (f := fun _ => some (ss.map entR)) (fun k => ?_) (Ev.now _)
      rw [rrF_succ, if_neg (by omega)]
    have hkey := hI (q + 1) (by omega) (Nat.le_refl _)
    have hrd : rdOf false need ((q + 1 : Nat) : Int) = need.getD (q + 1) false := by unfold rdOf; rw [Int.toNat_natCast]
    have e1 : ((q + 1 : Nat) : Int) - 1 = (q : Int) := by omega
    have c0 : (2 : Int) < ((q + 1 : Nat) : Int) := by omega
    have c1 : U ((q + 1 : Nat) : Int) ∧ ((q + 1 : Nat) : Int) < (need.length : Int) := ⟨⟨by omega, by omega⟩, by omega⟩
    by_cases hin : q + 1 ∈ ss
    · have hfl : need.getD (q + 1) false = true := by
        rw [hkey]
        rcases h.needed _ hin with e | ⟨s, hs, x, hx, e⟩
        · exact .inl e
        · exact .inr ⟨s, hs, by have := (fac_odd (h.odd s hs) hx).1; omega, x, hx, e⟩
      have ho := h.odd _ hin
      have F := (facs_of ho).2.2
      rw [Nat.add_sub_cancel] at F
      have G := rGenerator_odd ho.int (gen_least ho)
      have hok : okNeed need (m34 (facs (q + 1))) ∧ (m34 (facs (q + 1))).length < 1000 := by
        refine ⟨fun y hy => ?_, by unfold m34; rw [List.length_map]; exact facs_short ho⟩
        obtain ⟨x, hx, rfl⟩ := List.mem_map.1 hy
        have := (fac_odd ho hx).1
        exact ⟨by show (0 : Int) ≤ (x.1 : Int); omega, by show (x.1 : Int) < _; omega⟩
      have hol : ((ss.filter fun s => decide (q + 1 < s)).map entR).length < 1000 := by
        rw [List.length_map]
        have := List.length_filter_le (fun s => decide (q + 1 < s)) ss
        have := h.short
        omega
      have IH := ih (setAll need (m34 (facs (q + 1)))) (by omega) (by rw [setAll_len]; exact hl) fun j j2 jq => by
        rw [setAll_get _ _ _ (fun x hx => by have := (fac_odd ho hx).1; omega), hI j j2 (by omega)]
        constructor
        · rintro ((a | ⟨s, hs, b, c⟩) | ⟨x, hx, e⟩)
          · exact .inl a
          · exact .inr ⟨s, hs, by omega, c⟩
          · exact .inr ⟨q + 1, hin, by omega, x, hx, e⟩
        · rintro (a | ⟨s, hs, b, c⟩)
          · exact .inl (.inl a)
          · rcases Nat.lt_or_ge (q + 1) s with d | d
            · exact .inl (.inr ⟨s, hs, d, c⟩)
            · have : s = q + 1 := by omega
              subst this
              exact .inr c
      rw [filter_in h.rising hin] at IH
      refine Ev.step (f := fun k => (epicycleref05_Factor.f k (q : Int)).bind fun l => if okNeed need l ∧ l.length < 1000 then ((epicycleref05_Generator.f k ((q + 1 : Nat) : Int)).bind fun g => if ((ss.filter fun s => decide (q + 1 < s)).map entR).length < 1000 then rrF k (setAll need l) (⟨((q + 1 : Nat) : Int), g, l⟩ :: (ss.filter fun s => decide (q + 1 < s)).map entR) (q : Int) else none) else none) (fun k => ?_) ?_
      · rw [rrF_succ, if_pos c0, if_pos c1, hrd, hfl, if_neg (by decide), e1]
      · exact Ev.bind F (evP hok (Ev.bind G (evP hol IH)))
    · have hfl : need.getD (q + 1) false = false := by
        rw [← Bool.not_eq_true, hkey]
        rintro (e | ⟨s, hs, _, x, hx, e⟩)
        · exact hin (e ▸ h.mem)
        · rcases h.closed s hs x hx with e' | e'
          · omega
          · exact hin (e ▸ e')
      have IH := ih need (by omega) hl fun j j2 jq => by
        rw [hI j j2 (by omega)]
        refine or_congr Iff.rfl ⟨fun ⟨s, hs, b, c⟩ => ⟨s, hs, by omega, c⟩, fun ⟨s, hs, b, c⟩ => ⟨s, hs, ?_, c⟩⟩
        have : s ≠ q + 1 := fun e => hin (e ▸ hs)
        omega
      rw [filter_out hin] at IH
      refine Ev.step (fun k => ?_) IH
      rw [rrF_succ, if_pos c0, if_pos c1, hrd, hfl, if_pos rfl, e1]
theorem rrow_ev {p : Nat} {ss : List Nat} (h : Rows p ss) (hp : OddN p) : Ev (fun k => epicycleref05_Row.f k (p : Int)) (ss.map entR) := by
  have h6 := hp.2.1
  obtain ⟨n0, hn0⟩ : ∃ n, n = List.replicate 65537 false := ⟨_, rfl⟩
  have hl : n0.length = 65537 := by rw [hn0, List.length_replicate]
  have hg : ∀ j, n0.getD j false = false := fun j => by
    rw [hn0, List.getD_eq_getElem?_getD, List.getElem?_replicate]
    split <;> rfl
  have E := rr_ev h hp p (n0.set p true) (Nat.le_refl _) (by rw [List.length_set]; exact hl) fun j j2 jp => by
    rw [getD_set _ _ _ (by omega), hg]
    refine ⟨fun a => a.elim (fun b => by cases b) fun b => .inl b.symm, fun a => a.elim (fun b => .inr b.symm) fun ⟨s, hs, b, _⟩ => ?_⟩
    have := h.le s hs
    omega
  have e : (ss.filter fun s => decide (p < s)) = [] := List.filter_eq_nil_iff.2 fun s hs => by have := h.le s hs; simp; omega
  rw [e] at E
  refine Ev.congr (fun k => ?_) E
  unfold epicycleref05_Row.f
  rw [if_pos (by omega), ← hn0, Int.toNat_natCast]
  rfl
end Go.Proofs.Ytcphlhphdpjnfaa.Row05
end
section
namespace Go.Proofs.Ytcphlhphdpjnfaa.Row05
open Go Go.RowKit Go.Proofs.YtcphlhphdpjnfaaW.PrintWords Go.Proofs.YtcphlhphdpjnfaaW.PrintLast Go.Proofs.YtcphlhphdpjnfaaW.PrintMore Go.Proofs.Ytcphlhphdpjnfaa.Given Go.Proofs.Ytcphlhphdpjnfaa.M Go.Proofs.Ytcphlhphdpjnfaa.XS Go.Proofs.Ytcphlhphdpjnfaa.XT Go.Proofs.Ytcphlhphdpjnfaa.Given05 Go.Proofs.Ytcphlhphdpjnfaa.Num
theorem row_calls {p k : Nat} {ss : List Nat} (w : World) (h : sieve_Row.f k (p : Int) = some (ss.map entS, 0)) :
    Calls Try.prog 17 #[.int .u64 (p : Int)] w fun e w' => ∃ A c, e = .returned (.tuple #[.slice A ss.length c, .int .i64 0]) ∧ Kd.C k45 w' A ss.length (ss.map entS) ∧ Below w.heap.size w w' := by
  refine (sieve_Row.calls k p _ _ w h).mono ?_
  rintro e w' ⟨v, rfl, hs, hb⟩
  obtain ⟨A, c, rfl⟩ := Kd.S_slice hs
  have hc := (Kd.S_reads' hs).2.2
  rw [List.length_map] at hc ⊢
  exact ⟨A, c, rfl, hc, hb⟩
theorem rrow_calls {p k : Nat} {ss : List Nat} (w : World) (h : epicycleref05_Row.f k (p : Int) = some (ss.map entR)) :
    Calls Try.prog 19 #[.int .u64 (p : Int)] w fun e w' => ∃ A c, e = .returned (.slice A ss.length c) ∧ Kd.C k47 w' A ss.length (ss.map entR) ∧ Below w.heap.size w w' := by
  refine (epicycleref05_Row.calls' k p _ w h).mono ?_
  rintro e w' ⟨A, c, rfl, _, hc, hb⟩
  rw [List.length_map] at hc ⊢
  exact ⟨A, c, rfl, hc, hb⟩
theorem at_S2 {w : World} {A : Option Addr} {l : List (Nat × Nat)} (h : Kd.C k33 w A l.length (m33 l)) {j : Nat} (hj : j < l.length) : ∃ ad, A = some ad ∧ w.cell? (ad.add (j * 2)) = some (.int .u64 (l[j].1 : Int)) ∧ w.cell? ⟨(ad.add (j * 2)).block, (ad.add (j * 2)).off + 1, none⟩ = some (.int .i64 (l[j].2 : Int)) := by
  have r : rd_T33 (m33 l) (j : Int) = ⟨(l[j].1 : Int), (l[j].2 : Int)⟩ := by
    unfold rd_T33 m33
    rw [Int.toNat_natCast, List.getD_eq_getElem?_getD, List.getElem?_map, List.getElem?_eq_getElem hj]; rfl
  obtain ⟨ad, e, h0, h1⟩ := at_T33 h (j : Int) (by omega) (by omega)
  rw [r, Int.toNat_natCast] at h0 h1
  exact ⟨ad, e, h0, h1⟩
theorem at_R2 {w : World} {A : Option Addr} {l : List (Nat × Nat)} (h : Kd.C k34 w A l.length (m34 l)) {j : Nat} (hj : j < l.length) : ∃ ad, A = some ad ∧ w.cell? (ad.add (j * 2)) = some (.int .u64 (l[j].1 : Int)) ∧ w.cell? ⟨(ad.add (j * 2)).block, (ad.add (j * 2)).off + 1, none⟩ = some (.int .i64 (l[j].2 : Int)) := by
  have r : rd_T34 (m34 l) (j : Int) = ⟨(l[j].1 : Int), (l[j].2 : Int)⟩ := by
    unfold rd_T34 m34
    rw [Int.toNat_natCast, List.getD_eq_getElem?_getD, List.getElem?_map, List.getElem?_eq_getElem hj]; rfl
  obtain ⟨ad, e, h0, h1⟩ := at_T34 h (j : Int) (by omega) (by omega)
  rw [r, Int.toNat_natCast] at h0 h1
  exact ⟨ad, e, h0, h1⟩
theorem rowsNot_walk (p : Int) (w : World) (h : ¬ OddP p) :
    Calls Try.prog 6 #[.int .u64 p] w fun e w' => e = .returned (.bool true) ∧ Below w.heap.size w w' := by
  obtain ⟨k1, h1⟩ := Ev.rounds alive_ev
  obtain ⟨k2, h2⟩ := Ev.rounds (row_not h)
  have O := rOdd_ev p
  have hd : @decide (OddP p) (Classical.propDecidable _) = false := @decide_eq_false _ (Classical.propDecidable _) h
  rw [hd] at O
  obtain ⟨k3, h3⟩ := Ev.rounds O
  have H1 := Aside0.mk h1
  have H2 := Aside0.mk h2
  have H3 := Aside0.mk h3
  clear h1 h2 h3 O hd
  go_enter Try.func6, Try.ntmps6
  go_wp2_with (first
    | (go_at_call 8; (with_reducible refine (epicyclelaw05_alive.calls k1 true _ H1.out).mono ?_); rintro e w1 ⟨rfl, hb⟩; have HB1 := Aside0.mk hb; clear hb)
    | (go_at_call 17; (with_reducible refine (sieve_Row.calls k2 p [] 1 _ H2.out).mono ?_); rintro e w2 ⟨v, rfl, hs, hb⟩; (obtain ⟨A, c, rfl⟩ := Kd.S_slice hs); have HB2 := Aside0.mk hb; clear hb hs)
    | (go_at_call 18; (with_reducible refine (epicycleref05_Odd.calls k3 p false _ H3.out).mono ?_); rintro e w3 ⟨rfl, hd⟩; (have HB3 : Aside0 (Below w2.heap.size w2 w3) := ⟨by obtain ⟨nd, hnd⟩ := hd; rw [hnd]; exact pw_below_drewN (Below.refl _ _) nd⟩); clear hd))
  go_ret
  exact ⟨rfl, below_step (below_step HB1.out HB2.out) HB3.out⟩
theorem at_S {w : World} {A : Option Addr} {ss : List Nat} (h : Kd.C k45 w A ss.length (ss.map entS)) {i : Nat} (hi : i < ss.length) : ∃ ad A2 c2, A = some ad ∧ w.cell? (ad.add (i * 3)) = some (.int .u64 (ss[i] : Int)) ∧
    w.cell? ⟨(ad.add (i * 3)).block, (ad.add (i * 3)).off + 1, none⟩ = some (.int .u64 (gen ss[i] : Int)) ∧ w.cell? ⟨(ad.add (i * 3)).block, (ad.add (i * 3)).off + 2, none⟩ = some (.slice A2 (facs ss[i]).length c2) ∧ Kd.C k33 w A2 (facs ss[i]).length (m33 (facs ss[i])) := by
  have r : rd_T45 (ss.map entS) (i : Int) = entS ss[i] := by
    unfold rd_T45
    rw [Int.toNat_natCast, List.getD_eq_getElem?_getD, List.getElem?_map, List.getElem?_eq_getElem hi]; rfl
  obtain ⟨ad, A2, c2, e, h0, h1, h2, _, h3⟩ := at_T45 h (i : Int) (by omega) (by omega)
  have hl : (entS ss[i]).f2.length = (facs ss[i]).length := List.length_map _
  rw [r] at h0 h1 h2 h3
  rw [hl] at h2 h3
  rw [Int.toNat_natCast] at h0 h1 h2
  exact ⟨ad, A2, c2, e, h0, h1, h2, h3⟩
theorem at_R {w : World} {A : Option Addr} {ss : List Nat} (h : Kd.C k47 w A ss.length (ss.map entR)) {i : Nat} (hi : i < ss.length) : ∃ ad A2 c2, A = some ad ∧ w.cell? (ad.add (i * 3)) = some (.int .u64 (ss[i] : Int)) ∧
    w.cell? ⟨(ad.add (i * 3)).block, (ad.add (i * 3)).off + 1, none⟩ = some (.int .u64 (gen ss[i] : Int)) ∧ w.cell? ⟨(ad.add (i * 3)).block, (ad.add (i * 3)).off + 2, none⟩ = some (.slice A2 (facs ss[i]).length c2) ∧ Kd.C k34 w A2 (facs ss[i]).length (m34 (facs ss[i])) := by
  have r : rd_T47 (ss.map entR) (i : Int) = entR ss[i] := by
    unfold rd_T47
    rw [Int.toNat_natCast, List.getD_eq_getElem?_getD, List.getElem?_map, List.getElem?_eq_getElem hi]; rfl
  obtain ⟨ad, A2, c2, e, h0, h1, h2, _, h3⟩ := at_T47 h (i : Int) (by omega) (by omega)
  have hl : (entR ss[i]).f2.length = (facs ss[i]).length := List.length_map _
  rw [r] at h0 h1 h2 h3
  rw [hl] at h2 h3
  rw [Int.toNat_natCast] at h0 h1 h2
  exact ⟨ad, A2, c2, e, h0, h1, h2, h3⟩
set_option maxRecDepth 100000 in
set_option maxHeartbeats 8000000 in
theorem rowsOdd_walk (p : Nat) (w : World) (hp : OddN p) :
    Calls Try.prog 6 #[.int .u64 (p : Int)] w fun e w' => e = .returned (.bool true) ∧ Below w.heap.size w w' := by
  obtain ⟨ss, hr, R⟩ := row_ev hp
  obtain ⟨k1, h1⟩ := Ev.rounds alive_ev
  obtain ⟨k2, h2⟩ := Ev.rounds R
  have O := rOdd_ev (p : Int)
  have hd : @decide (OddP (p : Int)) (Classical.propDecidable _) = true := @decide_eq_true _ (Classical.propDecidable _) hp.int
  rw [hd] at O
  obtain ⟨k3, h3⟩ := Ev.rounds O
  obtain ⟨k4, h4⟩ := Ev.rounds (rrow_ev hr hp)
  have hs := hr.short
  have H1 := Aside0.mk h1
  have H2 := Aside0.mk h2
  have H3 := Aside0.mk h3
  have H4 := Aside0.mk h4
  have HS := Aside0.mk hs
  clear h1 h2 h3 h4 O hd R hs
  go_enter Try.func6, Try.ntmps6
  go_wp2_with (first
    | (go_at_call 8; (with_reducible refine (epicyclelaw05_alive.calls k1 true _ H1.out).mono ?_); rintro e w1 ⟨rfl, hb⟩; have HB1 := Aside0.mk hb; clear hb)
    | (go_at_call 17; (with_reducible refine (row_calls w1 H2.out).mono ?_); rintro e w2 ⟨A, c, rfl, hc, hb⟩; have HC2 := Aside0.mk hc; have HB2 := Aside0.mk hb; clear hb hc)
    | (go_at_call 18; (with_reducible refine (epicycleref05_Odd.calls k3 p true _ H3.out).mono ?_); rintro e w3 ⟨rfl, hd⟩; (have HB3 : Aside0 (Below w2.heap.size w2 w3) := ⟨by obtain ⟨nd, hnd⟩ := hd; rw [hnd]; exact pw_below_drewN (Below.refl _ _) nd⟩); clear hd)
    | (go_at_call 19; (with_reducible refine (rrow_calls w3 H4.out).mono ?_); rintro e w4 ⟨A', c', rfl, hc, hb⟩; have HC4 := Aside0.mk hc; have HB4 := Aside0.mk hb; clear hb hc))
  have HCS : Aside0 (Kd.C k45 w4 A ss.length (ss.map entS)) := ⟨Kd.C_below (Kd.C_below HC2.out HB3.out) HB4.out⟩
  have HBW : Aside0 (Below w.heap.size w w4) := ⟨below_step (below_step (below_step HB1.out HB2.out) HB3.out) HB4.out⟩
  clear HC2 HB1 HB2 HB3 HB4 H1 H2 H3 H4
  go_loopw [40] (fun v40 wr => ∃ i : Nat, v40 = .int .i64 i ∧ i ≤ ss.length ∧ Aside0 (Below w4.heap.size w4 wr)) (fun v40 _ => ss.length - (intOf v40).toNat)
  case atStart => exact ⟨0, rfl, Nat.zero_le _, ⟨Below.refl _ _⟩⟩
  case round =>
    obtain ⟨i, rfl, hi, HB⟩ := hrel
    have hs12 := HS.out
    by_cases hlt : i < ss.length
    · have c3b0 : decide ((i : Int) < (ss.length : Int)) = true := decide_eq_true (by omega)
      have c3b1 : decide (i < ss.length) = true := decide_eq_true hlt
      have p2 : 0 ≤ (i : Int) := by omega
      have q2 : (i : Int) < (ss.length : Int) := by omega
      obtain ⟨ad, A2, c2, rfl, x0, x1, x2, hC1⟩ := at_S (Kd.C_below HCS.out HB.out) hlt
      obtain ⟨ad', A2', c2', rfl, y0, y1, y2, hC2⟩ := at_R (Kd.C_below HC4.out HB.out) hlt
      obtain ⟨q, hq⟩ : ∃ q, q = ss[i] := ⟨_, rfl⟩
      rw [← hq] at x0 x1 x2 y0 y1 y2 hC1 hC2
      have hfs := facs_short (hr.odd _ (List.getElem_mem hlt))
      rw [← hq] at hfs
      have HD1 := Aside0.mk hC1
      have HD2 := Aside0.mk hC2
      have HFS := Aside0.mk hfs
      have HLT := Aside0.mk hlt
      clear hC1 hC2 hq hlt hi hs12 hfs
      go_wp2_with (first
        | ((with_reducible refine gate_dst (N := 7) rfl ?_); refine box_event ?hg (N := 7) ?hd (cs := #[.int .u64 0, .int .u64 0, .slice none 0 0]) (t := 45) ?hr ?_; (case hd => rfl); (case hg => rfl); (case hr => first | (go_simp; done) | (go_simp; rfl)); intro gb hg w11 hbox hbx2; (have GE : Aside0 (wr.heap.size ≤ gb) := ⟨by rw [hg]; exact Nat.le_refl _⟩); have HBX := Aside0.mk hbx2; have BK := Aside0.mk hbox; (have z0 : w11.cell? ⟨gb, 0, none⟩ = some (.int .u64 0) := (blk_cell hbox 0).trans rfl); (have z1 : w11.cell? ⟨gb, 1, none⟩ = some (.int .u64 0) := (blk_cell hbox 1).trans rfl); (have z2 : w11.cell? ⟨gb, 2, none⟩ = some (.slice none 0 0) := (blk_cell hbox 2).trans rfl); have z3 := blk_frozen hbox 0; have z4 := blk_frozen hbox 1; have z5 := blk_frozen hbox 2; clear hbox hbx2 hg)
        | ((with_reducible refine gate_store (t := 45) (p := 7) rfl ?_); refine store_event (t := 45) (p := 7) (v := ?vo) (w1 := (((w11.setCell ⟨gb, 0, none⟩ (.int .u64 (q : Int))).setCell ⟨gb, 1, none⟩ (.int .u64 (gen q : Int))).setCell ⟨gb, 2, none⟩ (.slice A2 (facs q).length c2))) ?hg ?ho ?hn ?hr ?_; (case ho => rfl); (case hg => rfl); (case hn => rfl); (case hr => first | (go_simp; done) | (go_simp; rfl)); intro w12 hw; (have HB12 : Aside0 (Below wr.heap.size wr w12) := ⟨by rw [hw]; exact below_set (below_set (below_set HBX.out GE.out) GE.out) GE.out⟩); (have BK12 : Aside0 (w12.heap[gb]? = some (.cells #[.int .u64 (q : Int), .int .u64 (gen q : Int), .slice A2 (facs q).length c2] 45 (0, 0))) := ⟨by rw [hw]; refine blk_put (cs := #[.int .u64 (q : Int), .int .u64 (gen q : Int), .slice none 0 0]) ?_ 2 _ rfl; refine blk_put (cs := #[.int .u64 (q : Int), .int .u64 0, .slice none 0 0]) ?_ 1 _ rfl; refine blk_put (cs := #[.int .u64 0, .int .u64 0, .slice none 0 0]) ?_ 0 _ rfl; exact BK.out⟩); clear hw z0 z1 z2 z3 z4 z5 x0 x1 x2; (have x0 : w12.cell? ⟨gb, 0, none⟩ = some (.int .u64 (q : Int)) := (blk_cell BK12.out 0).trans rfl); (have x1 : w12.cell? ⟨gb, 1, none⟩ = some (.int .u64 (gen q : Int)) := (blk_cell BK12.out 1).trans rfl); (have x2 : w12.cell? ⟨gb, 2, none⟩ = some (.slice A2 (facs q).length c2) := (blk_cell BK12.out 2).trans rfl); replace y0 := (HB12.out.cell (World.block_lt_of_cell? wr _ y0)).trans y0; replace y1 := (HB12.out.cell (World.block_lt_of_cell? wr _ y1)).trans y1; replace y2 := (HB12.out.cell (World.block_lt_of_cell? wr _ y2)).trans y2))
      go_quiet (fail)
      go_wp2
      obtain ⟨fs, hfs⟩ : ∃ fs, facs q = fs := ⟨_, rfl⟩
      rw [hfs] at HD1 HD2 HFS x2 y2 BK12
      simp only [hfs]
      have HE1 : Aside0 (Kd.C k33 w12 A2 fs.length (m33 fs)) := ⟨Kd.C_below HD1.out HB12.out⟩
      have HE2 : Aside0 (Kd.C k34 w12 A2' fs.length (m34 fs)) := ⟨Kd.C_below HD2.out HB12.out⟩
      clear HD1 HD2 hfs x0 x1 x2 y0 y1 BK BK12
      go_loopw [78] (fun v78 wi => ∃ j : Nat, v78 = .int .i64 j ∧ j ≤ fs.length ∧ Aside0 (Below w12.heap.size w12 wi)) (fun v78 _ => fs.length - (intOf v78).toNat)
      case atStart => exact ⟨0, rfl, Nat.zero_le _, ⟨by first | exact Below.refl _ _ | exact pw_below_drewN (Below.refl _ _) _⟩⟩
      case round =>
        obtain ⟨j, rfl, hj, HBI⟩ := hrel
        have hf1000 := HFS.out
        by_cases hjt : j < fs.length
        · have d3b0 : decide ((j : Int) < (fs.length : Int)) = true := decide_eq_true (by omega)
          have d3b1 : decide (j < fs.length) = true := decide_eq_true hjt
          have p3 : 0 ≤ (j : Int) := by omega
          have q3 : (j : Int) < (fs.length : Int) := by omega
          obtain ⟨ad1, rfl, u0, u1⟩ := at_S2 (Kd.C_below HE1.out HBI.out) hjt
          obtain ⟨ad2, rfl, v0, v1⟩ := at_R2 (Kd.C_below HE2.out HBI.out) hjt
          obtain ⟨Q, hQ⟩ : ∃ Q, Q = fs[j].1 := ⟨_, rfl⟩
          obtain ⟨E, hE⟩ : ∃ E, E = fs[j].2 := ⟨_, rfl⟩
          rw [← hQ] at u0 v0
          rw [← hE] at u1 v1
          have z2 := (HBI.out.cell (World.block_lt_of_cell? w12 _ y2)).trans y2
          have HJT := Aside0.mk hjt
          clear hQ hE hjt hj hf1000
          go_wp2_with (first
            | ((with_reducible refine gate_dst (N := 9) rfl ?_); refine box_event ?hg (N := 9) ?hd (cs := #[.int .u64 0, .int .i64 0]) (t := 33) ?hr ?_; (case hd => rfl); (case hg => rfl); (case hr => first | (go_simp; done) | (go_simp; rfl)); intro gc hg w13 hbox hbx2; (have GF : Aside0 (wr.heap.size ≤ gc) := ⟨by rw [hg]; exact Nat.le_refl _⟩); have HBY := Aside0.mk hbx2; have BL := Aside0.mk hbox; (have s0 : w13.cell? ⟨gc, 0, none⟩ = some (.int .u64 0) := (blk_cell hbox 0).trans rfl); (have s1 : w13.cell? ⟨gc, 1, none⟩ = some (.int .i64 0) := (blk_cell hbox 1).trans rfl); have s2 := blk_frozen hbox 0; have s3 := blk_frozen hbox 1; clear hbox hbx2 hg))
          obtain ⟨w14, hw⟩ : ∃ w14, (w13.setCell ⟨gc, 0, none⟩ (.int .u64 (Q : Int))).setCell ⟨gc, 1, none⟩ (.int .i64 (E : Int)) = w14 := ⟨_, rfl⟩
          rw [hw]
          have HB14 : Aside0 (Below wr.heap.size wr w14) := ⟨by rw [← hw]; exact below_set (below_set HBY.out GF.out) GF.out⟩
          have BL14 : Aside0 (w14.heap[gc]? = some (.cells #[.int .u64 (Q : Int), .int .i64 (E : Int)] 33 (0, 0))) := ⟨by rw [← hw]; refine blk_put (cs := #[.int .u64 (Q : Int), .int .i64 0]) ?_ 1 _ rfl; refine blk_put (cs := #[.int .u64 0, .int .i64 0]) ?_ 0 _ rfl; exact BL.out⟩
          clear hw s0 s1 s2 s3 u0 u1
          have s0 : w14.cell? ⟨gc, 0, none⟩ = some (.int .u64 (Q : Int)) := (blk_cell BL14.out 0).trans rfl
          have s1 : w14.cell? ⟨gc, 1, none⟩ = some (.int .i64 (E : Int)) := (blk_cell BL14.out 1).trans rfl
          replace v0 := (HB14.out.cell (World.block_lt_of_cell? wr _ v0)).trans v0
          replace v1 := (HB14.out.cell (World.block_lt_of_cell? wr _ v1)).trans v1
          replace z2 := (HB14.out.cell (World.block_lt_of_cell? wr _ z2)).trans z2
          go_quiet (fail)
          go_wp2
          go_roundw
          case rel => exact ⟨j + 1, by have := HJT.out; have := HFS.out; exact congrArg (Value.int .i64) ((w64_id ((j : Int) + 1) (by omega) (by omega)).trans rfl), HJT.out, ⟨by first | exact below_step HBI.out HB14.out | exact pw_below_drewN (below_step HBI.out HB14.out) _⟩⟩
          case measure =>
            have := HJT.out
            have := HFS.out
            rw [w64_id ((j : Int) + 1) (by omega) (by omega)]
            simp [intOf]; omega
        · have d3b0 : decide ((j : Int) < (fs.length : Int)) = false := decide_eq_false (by omega)
          have d3b1 : decide (j < fs.length) = false := decide_eq_false hjt
          clear hjt hj hf1000
          go_wp2
          go_roundw
          case rel => exact ⟨i + 1, by have := HLT.out; have := HS.out; exact congrArg (Value.int .i64) ((w64_id ((i : Int) + 1) (by omega) (by omega)).trans rfl), HLT.out, ⟨below_step (below_step HB.out HB12.out) HBI.out⟩⟩
          case measure =>
            have := HLT.out
            have := HS.out
            rw [w64_id ((i : Int) + 1) (by omega) (by omega)]
            simp [intOf]; omega
    · have c3b0 : decide ((i : Int) < (ss.length : Int)) = false := decide_eq_false (by omega)
      have c3b1 : decide (i < ss.length) = false := decide_eq_false hlt
      clear hlt hi hs12
      go_wp2
      go_ret
      exact ⟨rfl, below_step HBW.out HB.out⟩
theorem rows_walk (a0 : Int) (w : World) (w0 : (Lit.int .u64 a0).wf = true) :
    Calls Try.prog 6 #[.int .u64 a0] w fun e w' => e = .returned (.bool true) ∧ Below w.heap.size w w' := by
  by_cases h : OddP a0
  · obtain ⟨p, rfl⟩ : ∃ p : Nat, a0 = p := ⟨a0.toNat, by have := (wf_U w0).1; omega⟩
    exact rowsOdd_walk p w (OddN.of h)
  · exact rowsNot_walk a0 w h
end Go.Proofs.Ytcphlhphdpjnfaa.Row05
end
