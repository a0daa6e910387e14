/- Layer 5 (sieve): what the printer does not take: Generator (a closure handed to slices.ContainsFunc). -/
import Derived.Test.YtcphlhphdpjnfaaXS1
import Derived.Test.YtcphlhphdpjnfaaXS2
import Derived.Test.YtcphlhphdpjnfaaModP
namespace Go.Proofs.Ytcphlhphdpjnfaa.Given05
open Go Go.RowKit Go.Proofs.YtcphlhphdpjnfaaW.PrintWords Go.Proofs.YtcphlhphdpjnfaaW.PrintLast Go.Proofs.YtcphlhphdpjnfaaW.PrintMore Go.Proofs.Ytcphlhphdpjnfaa.Given Go.Proofs.Ytcphlhphdpjnfaa.M Go.Proofs.Ytcphlhphdpjnfaa.XS

/-- A factor's power is 1. -/
def bad (p g : Int) (x : S33) : Bool := g ^ ((p - 1) / x.f0).toNat % p == 1

set_option maxHeartbeats 2000000 in
theorem clo_calls {Q E g p d v : Int} {k b c : Nat} {w : World} {r : Bool} (hb : w.heap[b]? = some (.cells #[.int .u64 g] 26 (0, 0))) (hc : w.heap[c]? = some (.cells #[.int .u64 p] 26 (0, 0)))
    (hp : IntKind.u64.wrap (p - 1) = p - 1) (hz1 : ¬ Q = 0) (hd : Int.tdiv (p - 1) Q = d) (hw : IntKind.u64.wrap d = d) (hk : modular_Pow.f k g d p = some v) (hr : (v == 1) = r) :
    Calls Try.prog 24 #[.agg #[.int .u64 Q, .int .i64 E], .pointer (some ⟨b, 0, none⟩), .pointer (some ⟨c, 0, none⟩)] w fun e w' => e = .returned (.bool r) ∧ Below w.heap.size w w' := by
  have c0 : w.cell? ⟨b, 0, none⟩ = some (.int .u64 g) := (blk_cell hb 0).trans rfl
  have c1 : w.cell? ⟨c, 0, none⟩ = some (.int .u64 p) := (blk_cell hc 0).trans rfl
  have f0 := blk_frozen hb 0
  have f1 := blk_frozen hc 0
  have lb := blk_lt hb
  have lc := blk_lt hc
  have HK := Aside0.mk hk
  clear hb hc hk
  go_enter Try.func24, Try.ntmps24
  go_wp2
  repeat (go_quiet (first | (go_at_call 25; (with_reducible refine (modular_Pow.calls k g d p v _ HK.out).mono ?_); rintro e w' ⟨rfl, ⟨nd, rfl⟩⟩; (try first | exact qA | exact qB))); try go_wp2_with (first | (go_at_call 25; (with_reducible refine (modular_Pow.calls k g d p v _ HK.out).mono ?_); rintro e w' ⟨rfl, ⟨nd, rfl⟩⟩; (try first | exact qA | exact qB))))
  go_ret
  exact ⟨by first | rfl | (simp; done), by repeat (first | exact Below.refl _ _ | apply below_alloc | apply pw_below_drewN)⟩

def okS (p g : Int) (l : List S33) : Prop := (3 ≤ p ∧ p < 9223372036854775808) ∧ U g ∧ ∀ x ∈ l, 1 ≤ x.f0 ∧ U x.f0

theorem clo_ok {E p g : Int} {x : S33} {l : List S33} {b c : Nat} {w : World} (ho : okS p g l) (hx : x ∈ l) (hb : w.heap[b]? = some (.cells #[.int .u64 g] 26 (0, 0))) (hc : w.heap[c]? = some (.cells #[.int .u64 p] 26 (0, 0))) :
    Calls Try.prog 24 #[.agg #[.int .u64 x.f0, .int .i64 E], .pointer (some ⟨b, 0, none⟩), .pointer (some ⟨c, 0, none⟩)] w fun e w' => e = .returned (.bool (bad p g x)) ∧ Below w.heap.size w w' := by
  obtain ⟨⟨p0, p1⟩, ug, hl⟩ := ho
  obtain ⟨x1, ux⟩ := hl x hx
  have h0 : 0 ≤ (p - 1) / x.f0 := Int.ediv_nonneg (by omega) (by omega)
  have h1 : (p - 1) / x.f0 ≤ p - 1 := Int.ediv_le_self _ (by omega)
  have ud : U ((p - 1) / x.f0) := by unfold U; omega
  have up : U p := by unfold U; omega
  obtain ⟨k, hk⟩ := Ev.rounds (modular_Pow_ev ug ud up (by omega))
  have hp : IntKind.u64.wrap (p - 1) = p - 1 := wu64_id _ (by omega) (by omega)
  have hd : Int.tdiv (p - 1) x.f0 = (p - 1) / x.f0 := tdiv_pos (by omega)
  exact clo_calls hb hc hp (by omega) hd (wu64_id _ ud.1 ud.2) hk rfl

theorem any_take (l : List S33) (f : S33 → Bool) (i : Nat) (h : i < l.length) : (l.take (i + 1)).any f = ((l.take i).any f || f (rd_T33 l (i : Int))) := by
  unfold rd_T33
  rw [List.take_succ_eq_append_getElem h, List.any_append]
  simp [List.getD, List.getElem?_eq_getElem h]
theorem any_of {l : List S33} {f : S33 → Bool} {i : Nat} (h : (l.take i).any f = true) : l.any f = true := by
  rw [List.any_eq_true] at *
  obtain ⟨x, hx, he⟩ := h
  exact ⟨x, List.mem_of_mem_take hx, he⟩
theorem rd_mem {l : List S33} {i : Nat} (h : i < l.length) : rd_T33 l (i : Int) ∈ l := by
  unfold rd_T33
  simp [List.getD, List.getElem?_eq_getElem h]

set_option maxHeartbeats 2000000 in
theorem index_calls {A0 : Option Addr} {c0 b c : Nat} {l : List S33} {p g : Int} {w : World} (hr0 : Kd.C k33 w A0 l.length l) (ho : okS p g l) (hb : w.heap[b]? = some (.cells #[.int .u64 g] 26 (0, 0))) (hc : w.heap[c]? = some (.cells #[.int .u64 p] 26 (0, 0))) :
    Calls Try.prog 33 #[.slice A0 l.length c0, .func (Fn.func 24) #[] #[.pointer (some ⟨b, 0, none⟩), .pointer (some ⟨c, 0, none⟩)]] w fun e w' => ∃ i : Int, e = .returned (.int .i64 i) ∧ decide (0 ≤ i) = l.any (bad p g) ∧ Below w.heap.size w w' := by
  have hlen : l.length ≤ 9223372036854775807 := hr0.2.1
  have HR0 := Aside0.mk hr0
  have HB0 := Aside0.mk hb
  have HC0 := Aside0.mk hc
  have HO := Aside0.mk ho
  have h0 : Aside0 ((l.take 0).any (bad p g) = false) := ⟨rfl⟩
  clear hr0 hb hc ho
  go_enter Try.func33, Try.ntmps33
  go_wp2
  go_loopw [8] (fun v8 w' => ∃ i : Nat, v8 = .int .i64 i ∧ i ≤ l.length ∧ Aside0 ((l.take i).any (bad p g) = false) ∧ Aside0 (Below w.heap.size w w')) (fun v8 _ => l.length - (intOf v8).toNat)
  case atStart => exact ⟨0, rfl, by omega, h0, ⟨Below.refl _ _⟩⟩
  case round =>
    clear h0
    obtain ⟨i, rfl, hi, H1, HB⟩ := hrel
    by_cases hlt : i < l.length
    · have c3b0 : decide ((i : Int) < (l.length : Int)) = true := decide_eq_true (by omega)
      have c3b1 : decide (i < l.length) = true := decide_eq_true hlt
      have p1 : 0 ≤ (i : Int) := by omega
      have q1 : (i : Int) < (l.length : Int) := by omega
      obtain ⟨ad, e1, hx0, hx1⟩ := at_T33 HR0.out i p1 q1
      cases e1
      replace hx0 := (HB.out.cell (World.block_lt_of_cell? w _ hx0)).trans hx0
      replace hx1 := (HB.out.cell (World.block_lt_of_cell? w _ hx1)).trans hx1
      simp only [Int.toNat_natCast] at hx0 hx1
      have HBG := Aside0.mk (blk_below HB0.out HB.out)
      have HBP := Aside0.mk (blk_below HC0.out HB.out)
      have hstep := any_take l (bad p g) i hlt
      have HX := Aside0.mk (rd_mem hlt)
      clear hlt
      cases hm : bad p g (rd_T33 l (i : Int)) with
      | true =>
        have HM := Aside0.mk hm
        have HF : Aside0 (l.any (bad p g) = true) := ⟨any_of (i := i + 1) (by rw [hstep, hm]; simp)⟩
        clear hm hstep
        go_wp2_with (go_at_call 24; (with_reducible refine (clo_ok HO.out HX.out HBG.out HBP.out).mono ?_); rw [HM.out]; rintro e w2 ⟨rfl, hb2⟩; have HB2 := Aside0.mk hb2; clear hb2)
        go_ret
        exact ⟨i, by first | rfl | (simp; done), by rw [HF.out]; exact decide_eq_true (by omega), below_step HB.out HB2.out⟩
      | false =>
        have HM := Aside0.mk hm
        have HF : Aside0 ((l.take (i + 1)).any (bad p g) = false) := ⟨by rw [hstep, hm, H1.out]; rfl⟩
        clear hm hstep
        go_wp2_with (go_at_call 24; (with_reducible refine (clo_ok HO.out HX.out HBG.out HBP.out).mono ?_); rw [HM.out]; rintro e w2 ⟨rfl, hb2⟩; have HB2 := Aside0.mk hb2; clear hb2)
        go_roundw
        case rel => exact ⟨i + 1, by go_num, by omega, HF, ⟨below_step HB.out HB2.out⟩⟩
        case measure => simp [intOf]; omega
    · have c3b0 : decide ((i : Int) < (l.length : Int)) = false := decide_eq_false (by omega)
      have c3b1 : decide (i < l.length) = false := decide_eq_false hlt
      have HF : Aside0 (l.any (bad p g) = false) := ⟨by have := H1.out; rwa [List.take_of_length_le (by omega)] at this⟩
      clear hlt
      go_wp2
      go_ret
      exact ⟨-1, by first | rfl | (simp; done), by rw [HF.out]; rfl, HB.out⟩

theorem contains_calls {A0 : Option Addr} {c0 b c : Nat} {l : List S33} {p g : Int} {r : Bool} {w : World} (hr0 : Kd.C k33 w A0 l.length l) (ho : okS p g l) (hb : w.heap[b]? = some (.cells #[.int .u64 g] 26 (0, 0))) (hc : w.heap[c]? = some (.cells #[.int .u64 p] 26 (0, 0))) (hr : Aside0 (l.any (bad p g) = r)) :
    Calls Try.prog 23 #[.slice A0 l.length c0, .func (Fn.func 24) #[] #[.pointer (some ⟨b, 0, none⟩), .pointer (some ⟨c, 0, none⟩)]] w fun e w' => e = .returned (.bool r) ∧ Below w.heap.size w w' := by
  have HR0 := Aside0.mk hr0
  have HB0 := Aside0.mk hb
  have HC0 := Aside0.mk hc
  have HO := Aside0.mk ho
  clear hr0 hb hc ho
  go_enter Try.func23, Try.ntmps23
  go_wp2_with (go_at_call 33; (with_reducible refine (index_calls HR0.out HO.out HB0.out HC0.out).mono ?_); rintro e w2 ⟨i, rfl, hd, hb2⟩; have HB2 := Aside0.mk hb2; have HD := Aside0.mk hd; clear hb2 hd)
  go_ret
  exact ⟨by rw [← hr.out, ← HD.out] <;> first | rfl | (simp; done), HB2.out⟩

end Go.Proofs.Ytcphlhphdpjnfaa.Given05
