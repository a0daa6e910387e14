/- Layer 4 (proof): what the printer does not take: claimed (a closure handed to slices.ContainsFunc), full (a context), slices.Clone. -/
import Derived.Test.YtcnnaciilphadaaCtx2
import Derived.Test.YtcnnaciilphadaaXP0
namespace Go.Proofs.Ytcnnaciilphadaa.Given04
open Go Go.RowKit Go.Proofs.YtcnnaciilphadaaW.PrintWords Go.Proofs.YtcnnaciilphadaaW.PrintLast Go.Proofs.YtcnnaciilphadaaW.PrintMore Go.Proofs.Ytcnnaciilphadaa.Given Go.Proofs.Ytcnnaciilphadaa.M Go.Proofs.Ytcnnaciilphadaa.Mont Go.Proofs.Ytcnnaciilphadaa.XP

theorem clo_calls {p g q : Int} {sv : Value} {b : Nat} {w : World} {r : Bool} (hb : w.heap[b]? = some (.cells #[.int .u64 q] 22 (0, 0))) (hr : Aside0 ((p == q) = r)) :
    Calls Try.prog 57 #[.agg #[.int .u64 p, .int .u64 g, sv], .pointer (some ⟨b, 0, none⟩)] w fun e w' => e = .returned (.bool r) ∧ Below w.heap.size w w' := by
  have hc : w.cell? ⟨b, 0, none⟩ = some (.int .u64 q) := (blk_cell hb 0).trans rfl
  have hf := blk_frozen hb 0
  have hu := Try.underlying54
  have hlt := blk_lt hb
  clear hb
  go_enter Try.func57, Try.ntmps57
  go_wp2
  go_ret
  exact ⟨by rw [← hr.out] <;> first | rfl | (simp; done), below_alloc (Below.refl _ _) _⟩

/-- Is the number some entry's P? -/
def hasP (l : List S54) (q : Int) : Bool := l.any fun e => e.f0 == q

theorem any_take_succ (l : List S54) (q : Int) (i : Nat) (h : i < l.length) : hasP (l.take (i + 1)) q = (hasP (l.take i) q || ((rd_T54 l (i : Int)).f0 == q)) := by
  unfold hasP rd_T54
  rw [List.take_succ_eq_append_getElem h, List.any_append]
  simp [List.getD, List.getElem?_eq_getElem h]

theorem hasP_of_take {l : List S54} {q : Int} {i : Nat} (h : hasP (l.take i) q = true) : hasP l q = true := by
  unfold hasP at *
  rw [List.any_eq_true] at *
  obtain ⟨x, hx, he⟩ := h
  exact ⟨x, List.mem_of_mem_take hx, he⟩

set_option maxHeartbeats 2000000 in
theorem index_calls {A0 : Option Addr} {c0 b : Nat} {l0 : List S54} {q : Int} {w : World} (hr0 : Kd.C k54 w A0 l0.length l0) (hb : w.heap[b]? = some (.cells #[.int .u64 q] 22 (0, 0))) :
    Calls Try.prog 58 #[.slice A0 l0.length c0, .func (Fn.func 57) #[] #[.pointer (some ⟨b, 0, none⟩)]] w fun e w' => ∃ i : Int, e = .returned (.int .i64 i) ∧ decide (0 ≤ i) = hasP l0 q ∧ Below w.heap.size w w' := by
  have hlen : l0.length ≤ 9223372036854775807 := hr0.2.1
  have HR0 := Aside0.mk hr0
  have HC := Aside0.mk hb
  have h0 : Aside0 (hasP (l0.take 0) q = false) := ⟨rfl⟩
  clear hr0 hb
  go_enter Try.func58, Try.ntmps58
  go_wp2
  go_loopw [8] (fun v8 w' => ∃ i : Nat, v8 = .int .i64 i ∧ i ≤ l0.length ∧ Aside0 (hasP (l0.take i) q = false) ∧ Aside0 (Below w.heap.size w w')) (fun v8 _ => l0.length - (intOf v8).toNat)
  case atStart => exact ⟨0, rfl, by omega, h0, ⟨Below.refl _ _⟩⟩
  case round =>
    clear h0
    obtain ⟨i, rfl, hi, H1, HB⟩ := hrel
    by_cases hlt : i < l0.length
    · have c3b0 : decide ((i : Int) < (l0.length : Int)) = true := decide_eq_true (by omega)
      have c3b1 : decide (i < l0.length) = true := decide_eq_true hlt
      have p1 : 0 ≤ (i : Int) := by omega
      have q1 : (i : Int) < (l0.length : Int) := by omega
      obtain ⟨ad, A2, c2, e1, hx0, hx1, hx2, hl2, hi2⟩ := at_T54 HR0.out i p1 q1
      cases e1
      replace hx0 := (HB.out.cell (World.block_lt_of_cell? w _ hx0)).trans hx0
      replace hx1 := (HB.out.cell (World.block_lt_of_cell? w _ hx1)).trans hx1
      replace hx2 := (HB.out.cell (World.block_lt_of_cell? w _ hx2)).trans hx2
      simp only [Int.toNat_natCast] at hx0 hx1 hx2
      have HBLK := Aside0.mk (blk_below HC.out HB.out)
      have hstep := any_take_succ l0 q i hlt
      clear hi2 hl2 hlt
      cases hm : ((rd_T54 l0 (i : Int)).f0 == q) with
      | true =>
        have HM := Aside0.mk hm
        have HF : Aside0 (hasP l0 q = true) := ⟨hasP_of_take (i := i + 1) (by rw [hstep, hm]; simp)⟩
        clear hm hstep
        go_wp2_with (go_at_call 57; (with_reducible refine (clo_calls HBLK.out HM).mono ?_); rintro e w2 ⟨rfl, hb2⟩; have HB2 := Aside0.mk hb2; clear hb2)
        go_ret
        exact ⟨i, by first | rfl | (simp; done), by rw [HF.out]; exact decide_eq_true (by omega), below_step HB.out HB2.out⟩
      | false =>
        have HM := Aside0.mk hm
        have HF : Aside0 (hasP (l0.take (i + 1)) q = false) := ⟨by rw [hstep, hm, H1.out]; rfl⟩
        clear hm hstep
        go_wp2_with (go_at_call 57; (with_reducible refine (clo_calls HBLK.out HM).mono ?_); rintro e w2 ⟨rfl, hb2⟩; have HB2 := Aside0.mk hb2; clear hb2)
        go_roundw
        case rel => exact ⟨i + 1, by go_num, by omega, HF, ⟨below_step HB.out HB2.out⟩⟩
        case measure => simp [intOf]; omega
    · have c3b0 : decide ((i : Int) < (l0.length : Int)) = false := decide_eq_false (by omega)
      have c3b1 : decide (i < l0.length) = false := decide_eq_false hlt
      have HF : Aside0 (hasP l0 q = false) := ⟨by have := H1.out; rwa [List.take_of_length_le (by omega)] at this⟩
      clear hlt
      go_wp2
      go_ret
      exact ⟨-1, by first | rfl | (simp; done), by rw [HF.out]; rfl, HB.out⟩

theorem contains_calls {A0 : Option Addr} {c0 b : Nat} {l0 : List S54} {q : Int} {w : World} (hr0 : Kd.C k54 w A0 l0.length l0) (hb : w.heap[b]? = some (.cells #[.int .u64 q] 22 (0, 0))) :
    Calls Try.prog 56 #[.slice A0 l0.length c0, .func (Fn.func 57) #[] #[.pointer (some ⟨b, 0, none⟩)]] w fun e w' => e = .returned (.bool (hasP l0 q)) ∧ Below w.heap.size w w' := by
  have HR0 := Aside0.mk hr0
  have HC := Aside0.mk hb
  clear hr0 hb
  go_enter Try.func56, Try.ntmps56
  go_wp2_with (go_at_call 58; (with_reducible refine (index_calls HR0.out HC.out).mono ?_); rintro e w2 ⟨i, rfl, hd, hb2⟩; have HB2 := Aside0.mk hb2; have HD := Aside0.mk hd; clear hb2 hd)
  go_ret
  exact ⟨by rw [← HD.out] <;> first | rfl | (simp; done), HB2.out⟩

def proof_claimed.f (l0 : List S54) (a1 : Int) : Option Bool := some (hasP l0 a1)

theorem proof_claimed.calls (A0 : Option Addr) (c0 : Nat) (l0 : List S54) (a1 : Int) (r : Bool) (w : World) (hr0 : Kd.C k54 w A0 l0.length l0) (_hc0 : l0.length ≤ c0) (h : proof_claimed.f l0 a1 = some r) :
    Calls Try.prog 54 #[.slice A0 l0.length c0, .int .u64 a1] w fun e w' => e = .returned (.bool r) ∧ Below w.heap.size w w' := by
  have HR : Aside0 (hasP l0 a1 = r) := ⟨Option.some.inj h⟩
  have HR0 : Aside0 (Kd.C k54 (w.alloc (.cells #[.int .u64 a1] 22)) A0 l0.length l0) := ⟨Kd.C_alloc hr0 _⟩
  have HC : Aside0 ((w.alloc (.cells #[.int .u64 a1] 22)).heap[w.heap.size]? = some (.cells #[.int .u64 a1] 22 (0, 0))) := ⟨blk_new _ _⟩
  clear h hr0
  go_enter Try.func54, Try.ntmps54
  go_wp2_with (go_at_call 56; (with_reducible refine (contains_calls HR0.out HC.out).mono ?_); rintro e w2 ⟨rfl, hb2⟩; have HB2 := Aside0.mk hb2; clear hb2)
  go_ret
  exact ⟨by rw [← HR.out] <;> first | rfl | (simp; done), below_step (below_alloc (Below.refl _ _) _) HB2.out⟩

end Go.Proofs.Ytcnnaciilphadaa.Given04
