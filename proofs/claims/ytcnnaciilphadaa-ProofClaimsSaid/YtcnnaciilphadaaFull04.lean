/- Layer 4 (proof): full (a context). -/
import Derived.Test.YtcnnaciilphadaaGiven04
namespace Go.Proofs.Ytcnnaciilphadaa.Given04
open Go Go.RowKit Go.Proofs.YtcnnaciilphadaaW.PrintWords Go.Proofs.YtcnnaciilphadaaW.PrintLast Go.Proofs.YtcnnaciilphadaaW.PrintMore Go.Proofs.Ytcnnaciilphadaa.Given Go.Proofs.Ytcnnaciilphadaa.M Go.Proofs.Ytcnnaciilphadaa.Mont Go.Proofs.Ytcnnaciilphadaa.XP

theorem pow_one_iff {m : Int} (g : GoodM m) (x e : Int) : (mPow m (mIn m x) e == mOne m) = (x ^ e.toNat % m == 1) := by
  rw [pow_in g]
  have h1 : mOne m = mIn m 1 := by unfold mOne mIn; rw [Int.one_mul]
  have h2 : (1 : Int) % m = 1 := Int.emod_eq_of_lt (by omega) (by unfold GoodM at g; omega)
  rw [h1]
  by_cases h : x ^ e.toNat % m = 1
  · have : mIn m (x ^ e.toNat) = mIn m 1 := by rw [← in_rest (x ^ e.toNat), h]
    rw [this, h]; simp
  · have : mIn m (x ^ e.toNat) ≠ mIn m 1 := fun q => h (by have := strike g q; rw [this, h2])
    rw [beq_eq_false_iff_ne.mpr this, beq_eq_false_iff_ne.mpr h]

/-- A factor's power is 1. -/
def bad1 (P G : Int) (x : S59) : Bool := G ^ ((P - 1) / x.f0).toNat % P == 1
def okF (P G : Int) (l : List S59) : Prop := GoodM P ∧ U G ∧ ∀ x ∈ l, 1 ≤ x.f0 ∧ U x.f0
instance (P G : Int) (l : List S59) : Decidable (okF P G l) := by unfold okF GoodM U; infer_instance
def proof_full.f (P G : Int) (l : List S59) : Option Bool :=
  if okF P G l then some ((G ^ (P - 1).toNat % P == 1) && !(l.any (bad1 P G))) else none

theorem any_take_succ1 (l : List S59) (f : S59 → Bool) (i : Nat) (h : i < l.length) : (l.take (i + 1)).any f = ((l.take i).any f || f (rd_T59 l (i : Int))) := by
  unfold rd_T59
  rw [List.take_succ_eq_append_getElem h, List.any_append]
  simp [List.getD, List.getElem?_eq_getElem h]
theorem any_of_take {l : List S59} {f : S59 → Bool} {i : Nat} (h : (l.take i).any f = true) : l.any f = true := by
  rw [List.any_eq_true] at *
  obtain ⟨x, hx, he⟩ := h
  exact ⟨x, List.mem_of_mem_take hx, he⟩
theorem rd_mem {l : List S59} {i : Nat} (h : i < l.length) : rd_T59 l (i : Int) ∈ l := by
  unfold rd_T59
  simp [List.getD, List.getElem?_eq_getElem h]

set_option maxRecDepth 100000 in
set_option maxHeartbeats 8000000 in
theorem proof_full.calls (P G : Int) (A0 : Option Addr) (c0 : Nat) (l : List S59) (r : Bool) (w : World) (hr0 : Kd.C k59 w A0 l.length l) (_hc0 : l.length ≤ c0) (h : proof_full.f P G l = some r) :
    Calls Try.prog 51 #[.agg #[.int .u64 P, .int .u64 G, .slice A0 l.length c0]] w fun e w' => e = .returned (.bool r) ∧ Below w.heap.size w w' := by
  unfold proof_full.f at h
  split at h
  case isFalse => cases h
  rename_i hok
  have HR := Aside0.mk (Option.some.inj h)
  clear h
  obtain ⟨w1, hw1⟩ : ∃ w1, w1 = w.alloc (.cells #[.int .u64 P, .int .u64 G, .slice A0 l.length c0] 54) := ⟨_, rfl⟩
  have hG : Aside0 (GoodM P) := ⟨hok.1⟩
  obtain ⟨g, hg⟩ : ∃ g, g = mIn P G := ⟨_, rfl⟩
  obtain ⟨o, ho⟩ : ∃ o, o = mOne P := ⟨_, rfl⟩
  obtain ⟨m1, hm1⟩ : ∃ m1, m1 = P - 1 := ⟨_, rfl⟩
  obtain ⟨pw, hpw⟩ : ∃ pw, pw = mPow P g m1 := ⟨_, rfl⟩
  have hwr : IntKind.u64.wrap (P - 1) = m1 := by rw [wu64, hm1]; have := hok.1; unfold GoodM at this; omega
  have SG := Aside0.mk hg
  have SO := Aside0.mk ho
  have SP := Aside0.mk hpw
  have UG := Aside0.mk hok.2.1
  have Ug : Aside0 (U g) := ⟨by rw [hg]; exact U_mod hok.1 _⟩
  have Um : Aside0 (U m1) := ⟨by rw [hm1]; have := hok.1; unfold GoodM at this; unfold U; omega⟩
  have HM1 := Aside0.mk hm1
  have HOK := Aside0.mk hok
  have HLEN : Aside0 (l.length ≤ 9223372036854775807) := ⟨hr0.2.1⟩
  have HB1 : Aside0 (w1.heap[w.heap.size]? = some (.cells #[.int .u64 P, .int .u64 G, .slice A0 l.length c0] 54 (0, 0))) := ⟨by rw [hw1]; exact blk_new _ _⟩
  have HC1 : Aside0 (Kd.C k59 w1 A0 l.length l) := ⟨by rw [hw1]; exact Kd.C_alloc hr0 _⟩
  have HW1 : Aside0 (Below w.heap.size w w1) := ⟨by rw [hw1]; exact below_alloc (Below.refl _ _) _⟩
  have hfirst : (pw == o) = (G ^ (P - 1).toNat % P == 1) := by rw [hpw, ho, hg, hm1, pow_one_iff hok.1]
  have hbx : w1.cell? ⟨w.heap.size, 0, none⟩ = some (.int .u64 P) := (blk_cell HB1.out 0).trans rfl
  cases hb : (pw == o) with
  | false =>
    have HR' : Aside0 (r = false) := ⟨by rw [← HR.out, ← hfirst, hb]; rfl⟩
    clear hr0 _hc0 hok HR hg ho hm1 hpw hfirst HOK HLEN
    go_enter Try.func51, Try.ntmps51
    go_wp2_with (first
        | (go_at_call 15; (with_reducible refine (New_good hG.out).mono ?_); rintro e w2 ⟨v, rfl, hv, hb2⟩; (have HB2 : Aside0 (Below w1.heap.size w1 w2) := ⟨by rw [hw1]; exact hb2⟩); have HE := Aside0.mk (blk_below HB1.out HB2.out); (have e0 : w2.cell? ⟨w.heap.size, 0, none⟩ = some (.int .u64 P) := (blk_cell HE.out 0).trans rfl); (have e1 : w2.cell? ⟨w.heap.size, 1, none⟩ = some (.int .u64 G) := (blk_cell HE.out 1).trans rfl); (have e2 : w2.cell? ⟨w.heap.size, 2, none⟩ = some (.slice A0 l.length c0) := (blk_cell HE.out 2).trans rfl); have HB := Aside0.mk hv; (have HN : Aside0 (∀ n, IsCtx (w2.drewN n) v P) := ⟨fun _ => HB.out⟩); clear hb2 hv)
        | (go_at_call 18; (with_reducible refine (In_some HB.out UG.out SG).mono ?_); rintro e w' ⟨rfl, ⟨nd, rfl⟩⟩; (try first | exact qA | exact qB))
        | (go_at_call 18; (with_reducible refine (In_some (HN.out _) UG.out SG).mono ?_); rintro e w' ⟨rfl, ⟨nd, rfl⟩⟩; (try first | exact qA | exact qB))
        | (go_at_call 27; (with_reducible refine (Pow_some HB.out Ug.out Um.out SP).mono ?_); rintro e w' ⟨rfl, ⟨nd, rfl⟩⟩; (try first | exact qA | exact qB))
        | (go_at_call 27; (with_reducible refine (Pow_some (HN.out _) Ug.out Um.out SP).mono ?_); rintro e w' ⟨rfl, ⟨nd, rfl⟩⟩; (try first | exact qA | exact qB))
        | (go_at_call 19; (with_reducible refine (One_some HB.out SO).mono ?_); rintro e w' ⟨rfl, ⟨nd, rfl⟩⟩; (try first | exact qA | exact qB))
        | (go_at_call 19; (with_reducible refine (One_some (HN.out _) SO).mono ?_); rintro e w' ⟨rfl, ⟨nd, rfl⟩⟩; (try first | exact qA | exact qB))
      )
    go_ret
    exact ⟨by rw [HR'.out] <;> first | rfl | (simp; done), by repeat (first | exact below_step HW1.out HB2.out | apply pw_below_drewN)⟩
  | true =>
    have HF : Aside0 ((!(l.any (bad1 P G))) = r) := ⟨by rw [← HR.out, ← hfirst, hb]; rfl⟩
    have hne : (pw != o) = false := by rw [bne, hb]; rfl
    have h00 : Aside0 ((l.take 0).any (bad1 P G) = false) := ⟨rfl⟩
    clear hr0 _hc0 hok HR hg ho hm1 hpw hfirst
    go_enter Try.func51, Try.ntmps51
    go_wp2_with (first
        | (go_at_call 15; (with_reducible refine (New_good hG.out).mono ?_); rintro e w2 ⟨v, rfl, hv, hb2⟩; (have HB2 : Aside0 (Below w1.heap.size w1 w2) := ⟨by rw [hw1]; exact hb2⟩); have HE := Aside0.mk (blk_below HB1.out HB2.out); (have e0 : w2.cell? ⟨w.heap.size, 0, none⟩ = some (.int .u64 P) := (blk_cell HE.out 0).trans rfl); (have e1 : w2.cell? ⟨w.heap.size, 1, none⟩ = some (.int .u64 G) := (blk_cell HE.out 1).trans rfl); (have e2 : w2.cell? ⟨w.heap.size, 2, none⟩ = some (.slice A0 l.length c0) := (blk_cell HE.out 2).trans rfl); have HB := Aside0.mk hv; (have HN : Aside0 (∀ n, IsCtx (w2.drewN n) v P) := ⟨fun _ => HB.out⟩); clear hb2 hv)
        | (go_at_call 18; (with_reducible refine (In_some HB.out UG.out SG).mono ?_); rintro e w' ⟨rfl, ⟨nd, rfl⟩⟩; (try first | exact qA | exact qB))
        | (go_at_call 18; (with_reducible refine (In_some (HN.out _) UG.out SG).mono ?_); rintro e w' ⟨rfl, ⟨nd, rfl⟩⟩; (try first | exact qA | exact qB))
        | (go_at_call 27; (with_reducible refine (Pow_some HB.out Ug.out Um.out SP).mono ?_); rintro e w' ⟨rfl, ⟨nd, rfl⟩⟩; (try first | exact qA | exact qB))
        | (go_at_call 27; (with_reducible refine (Pow_some (HN.out _) Ug.out Um.out SP).mono ?_); rintro e w' ⟨rfl, ⟨nd, rfl⟩⟩; (try first | exact qA | exact qB))
        | (go_at_call 19; (with_reducible refine (One_some HB.out SO).mono ?_); rintro e w' ⟨rfl, ⟨nd, rfl⟩⟩; (try first | exact qA | exact qB))
        | (go_at_call 19; (with_reducible refine (One_some (HN.out _) SO).mono ?_); rintro e w' ⟨rfl, ⟨nd, rfl⟩⟩; (try first | exact qA | exact qB))
      )
    go_loopw [30] (fun v30 wr => ∃ i : Nat, v30 = .int .i64 i ∧ i ≤ l.length ∧ Aside0 ((l.take i).any (bad1 P G) = false) ∧ Aside0 (Below w2.heap.size w2 wr)) (fun v30 _ => l.length - (intOf v30).toNat)
    case atStart => exact ⟨0, rfl, by omega, h00, ⟨by repeat (first | exact Below.refl _ _ | apply pw_below_drewN)⟩⟩
    case round =>
      clear h00
      have HC2 : Aside0 (Kd.C k59 w2 A0 l.length l) := ⟨Kd.C_below HC1.out HB2.out⟩
      obtain ⟨i, rfl, hi, H1, HBW⟩ := hrel
      have hlen := HLEN.out
      by_cases hlt : i < l.length
      · have c3b0 : decide ((i : Int) < (l.length : Int)) = true := decide_eq_true (by omega)
        have c3b1 : decide (i < l.length) = true := decide_eq_true hlt
        have p1 : 0 ≤ (i : Int) := by omega
        have q1 : (i : Int) < (l.length : Int) := by omega
        obtain ⟨ad, rfl, hx0, hx1⟩ := at_T59 HC2.out i (by omega) (by omega)
        replace hx0 := (HBW.out.cell (World.block_lt_of_cell? w2 _ hx0)).trans hx0
        replace hx1 := (HBW.out.cell (World.block_lt_of_cell? w2 _ hx1)).trans hx1
        simp only [Int.toNat_natCast] at hx0 hx1
        replace e0 := (HBW.out.cell (World.block_lt_of_cell? w2 _ e0)).trans e0
        replace e1 := (HBW.out.cell (World.block_lt_of_cell? w2 _ e1)).trans e1
        replace e2 := (HBW.out.cell (World.block_lt_of_cell? w2 _ e2)).trans e2
        have hstep := any_take_succ1 l (bad1 P G) i hlt
        have hxm := HOK.out.2.2 _ (rd_mem hlt)
        have HEB := Aside0.mk (blk_below HE.out HBW.out)
        obtain ⟨Q, hQ⟩ : ∃ Q, Q = (rd_T59 l (i : Int)).f0 := ⟨_, rfl⟩
        obtain ⟨E, hE⟩ : ∃ E, E = (rd_T59 l (i : Int)).f1 := ⟨_, rfl⟩
        rw [← hQ] at hx0 hxm
        rw [← hE] at hx1
        have hbd : bad1 P G (rd_T59 l (i : Int)) = (G ^ ((P - 1) / Q).toNat % P == 1) := by rw [hQ]; rfl
        rw [hbd, H1.out, Bool.false_or] at hstep
        obtain ⟨d, hd⟩ : ∃ d, d = (P - 1) / Q := ⟨_, rfl⟩
        obtain ⟨pd, hpd⟩ : ∃ pd, pd = mPow P g d := ⟨_, rfl⟩
        have hm1 := HM1.out
        have hz : (Q == 0) = false := beq_eq_false_iff_ne.mpr (by omega)
        have hz1 : ¬ Q = 0 := by omega
        have hdv : Int.tdiv m1 Q = d := by rw [tdiv_pos Um.out.1, hd, hm1]
        have SD := Aside0.mk hpd
        have Ud : Aside0 (U d) := ⟨by
          have u := Um.out
          have : (P - 1) / Q ≤ P - 1 := Int.ediv_le_self _ (by rw [← hm1]; exact u.1)
          have h0 : 0 ≤ (P - 1) / Q := Int.ediv_nonneg (by rw [← hm1]; exact u.1) (by omega)
          rw [hd]; unfold U at *; omega⟩
        have hdw : IntKind.u64.wrap d = d := by have u := Ud.out; rw [wu64]; exact Int.emod_eq_of_lt u.1 u.2
        have hcmp : (pd == o) = (l.take (i + 1)).any (bad1 P G) := by rw [hpd, SO.out, SG.out, pow_one_iff hG.out, hstep, hd]
        have HS := Aside0.mk hstep
        have HC := Aside0.mk hcmp
        have HLT := Aside0.mk hlt
        clear hstep hcmp hxm hQ hE hbd hd hpd hm1 hi hlt
        cases hbq : (pd == o) with
        | true =>
          have HR' : Aside0 (r = false) := ⟨by rw [← HF.out, any_of_take (i := i + 1) (by rw [← HC.out, hbq])]; rfl⟩
          go_wp2_with (first
            | ((with_reducible refine gate_dst (N := 7) rfl ?_); refine box_event ?hg (N := 7) ?hd (cs := #[.int .u64 0, .int .i64 0]) (t := 59) ?hr ?_; (case hd => rfl); (case hg => rfl); (case hr => first | (go_simp; done) | (go_simp; rfl)); intro gb hg w11 hbox hbx2; (have GE : Aside0 (w2.heap.size ≤ gb) := ⟨by rw [hg]; exact HBW.out.size⟩); (have ne1 : gb ≠ w.heap.size := (by have := blk_lt HE.out; have := GE.out; omega)); have ne2 := Ne.symm ne1; (have HBX : Aside0 (Below w2.heap.size w2 w11) := ⟨below_step HBW.out hbx2⟩); replace e0 := (hbx2.cell (World.block_lt_of_cell? wr _ e0)).trans e0; (have z0 : w11.cell? ⟨gb, 0, none⟩ = some (.int .u64 0) := (blk_cell hbox 0).trans rfl); (have z1 : w11.cell? ⟨gb, 1, none⟩ = some (.int .i64 0) := (blk_cell hbox 1).trans rfl); have z2 := blk_frozen hbox 0; have z3 := blk_frozen hbox 1; clear hbox hbx2 hg e1 e2 hx0 hx1)
            | (go_at_call 27; (with_reducible refine (Pow_some (HB.out.below (by repeat (first | exact HBX.out | apply pw_below_drewN | refine below_set ?_ GE.out))) Ug.out Ud.out SD).mono ?_); rintro e w' ⟨rfl, ⟨nd, rfl⟩⟩; (try first | exact qA | exact qB))
            | (go_at_call 19; (with_reducible refine (One_some (HB.out.below (by repeat (first | exact HBX.out | apply pw_below_drewN | refine below_set ?_ GE.out))) SO).mono ?_); rintro e w' ⟨rfl, ⟨nd, rfl⟩⟩; (try first | exact qA | exact qB))
          )
          go_ret
          exact ⟨by rw [HR'.out] <;> first | rfl | (simp; done), below_step (below_step HW1.out HB2.out) (by repeat (first | exact HBX.out | apply pw_below_drewN | refine below_set ?_ GE.out))⟩
        | false =>
          have HA : Aside0 ((l.take (i + 1)).any (bad1 P G) = false) := ⟨by rw [← HC.out, hbq]⟩
          go_wp2_with (first
            | ((with_reducible refine gate_dst (N := 7) rfl ?_); refine box_event ?hg (N := 7) ?hd (cs := #[.int .u64 0, .int .i64 0]) (t := 59) ?hr ?_; (case hd => rfl); (case hg => rfl); (case hr => first | (go_simp; done) | (go_simp; rfl)); intro gb hg w11 hbox hbx2; (have GE : Aside0 (w2.heap.size ≤ gb) := ⟨by rw [hg]; exact HBW.out.size⟩); (have ne1 : gb ≠ w.heap.size := (by have := blk_lt HE.out; have := GE.out; omega)); have ne2 := Ne.symm ne1; (have HBX : Aside0 (Below w2.heap.size w2 w11) := ⟨below_step HBW.out hbx2⟩); replace e0 := (hbx2.cell (World.block_lt_of_cell? wr _ e0)).trans e0; (have z0 : w11.cell? ⟨gb, 0, none⟩ = some (.int .u64 0) := (blk_cell hbox 0).trans rfl); (have z1 : w11.cell? ⟨gb, 1, none⟩ = some (.int .i64 0) := (blk_cell hbox 1).trans rfl); have z2 := blk_frozen hbox 0; have z3 := blk_frozen hbox 1; clear hbox hbx2 hg e1 e2 hx0 hx1)
            | (go_at_call 27; (with_reducible refine (Pow_some (HB.out.below (by repeat (first | exact HBX.out | apply pw_below_drewN | refine below_set ?_ GE.out))) Ug.out Ud.out SD).mono ?_); rintro e w' ⟨rfl, ⟨nd, rfl⟩⟩; (try first | exact qA | exact qB))
            | (go_at_call 19; (with_reducible refine (One_some (HB.out.below (by repeat (first | exact HBX.out | apply pw_below_drewN | refine below_set ?_ GE.out))) SO).mono ?_); rintro e w' ⟨rfl, ⟨nd, rfl⟩⟩; (try first | exact qA | exact qB))
          )
          go_roundw
          case rel => exact ⟨i + 1, by have := HLT.out; have := HLEN.out; go_num, by have := HLT.out; omega, HA, ⟨(by repeat (first | exact HBX.out | apply pw_below_drewN | refine below_set ?_ GE.out))⟩⟩
          case measure => have := HLT.out; have := HLEN.out; simp [intOf]; omega
      · have c3b0 : decide ((i : Int) < (l.length : Int)) = false := decide_eq_false (by omega)
        have c3b1 : decide (i < l.length) = false := decide_eq_false hlt
        have HR' : Aside0 (r = true) := ⟨by rw [← HF.out]; have := H1.out; rw [List.take_of_length_le (by omega)] at this; rw [this]; rfl⟩
        clear hlt hlen
        go_wp2
        go_ret
        exact ⟨by rw [HR'.out] <;> first | rfl | (simp; done), by repeat (first | exact below_step (below_step HW1.out HB2.out) HBW.out | apply pw_below_drewN)⟩

end Go.Proofs.Ytcnnaciilphadaa.Given04
