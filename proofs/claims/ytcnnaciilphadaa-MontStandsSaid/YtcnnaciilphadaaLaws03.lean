/- The statements of layer 3, walked. -/
import Derived.Test.YtcnnaciilphadaaCtx2
import Derived.Test.YtcnnaciilphadaaRef02
namespace Go.Proofs.Ytcnnaciilphadaa.Mont
open Go Go.RowKit Go.Proofs.YtcnnaciilphadaaW.PrintWords Go.Proofs.YtcnnaciilphadaaW.PrintLast Go.Proofs.YtcnnaciilphadaaW.PrintMore Go.Proofs.Ytcnnaciilphadaa.Given Go.Proofs.Ytcnnaciilphadaa.M Go.Proofs.Ytcnnaciilphadaa.XR

set_option maxHeartbeats 4000000 in
theorem alive_calls {w : World} : Calls Try.prog 14 #[] w fun e w' => e = .returned (.bool true) ∧ Below w.heap.size w w' := by
  have A1 : Aside0 ((2 : Int) = mOne 7) := ⟨by decide⟩
  have A2 : Aside0 ((6 : Int) = mIn 7 3) := ⟨by decide⟩
  have A3 : Aside0 ((4 : Int) = mMul 7 6 6) := ⟨by decide +kernel⟩
  have A4 : Aside0 ((2 : Int) = mOut 7 4) := ⟨by decide +kernel⟩
  have G7 : Aside0 (GoodM 7) := ⟨by decide⟩
  have U3 : Aside0 (U 3) := ⟨by unfold U; omega⟩
  have U6 : Aside0 (U 6) := ⟨by unfold U; omega⟩
  have U4 : Aside0 (U 4) := ⟨by unfold U; omega⟩
  go_enter Try.func14, Try.ntmps14
  go_wp2_with (first
    | (go_at_call 15; (with_reducible refine (New_good G7.out).mono ?_); rintro e w1 ⟨v, rfl, hc, hb⟩; have HB := Aside0.mk hc; have HN : Aside0 (∀ n, IsCtx (w1.drewN n) v 7) := ⟨fun _ => hc⟩; have HW1 := Aside0.mk hb; clear hc hb)
    | (go_at_call 19; (with_reducible refine (One_some HB.out A1).mono ?_); rintro e w' ⟨rfl, ⟨nd, rfl⟩⟩; (try first | exact qA | exact qB))
    | (go_at_call 19; (with_reducible refine (One_some (HN.out _) A1).mono ?_); rintro e w' ⟨rfl, ⟨nd, rfl⟩⟩; (try first | exact qA | exact qB))
    | (go_at_call 18; (with_reducible refine (In_some HB.out U3.out A2).mono ?_); rintro e w' ⟨rfl, ⟨nd, rfl⟩⟩; (try first | exact qA | exact qB))
    | (go_at_call 18; (with_reducible refine (In_some (HN.out _) U3.out A2).mono ?_); rintro e w' ⟨rfl, ⟨nd, rfl⟩⟩; (try first | exact qA | exact qB))
    | (go_at_call 20; (with_reducible refine (Mul_some HB.out U6.out U6.out A3).mono ?_); rintro e w' ⟨rfl, ⟨nd, rfl⟩⟩; (try first | exact qA | exact qB))
    | (go_at_call 20; (with_reducible refine (Mul_some (HN.out _) U6.out U6.out A3).mono ?_); rintro e w' ⟨rfl, ⟨nd, rfl⟩⟩; (try first | exact qA | exact qB))
    | (go_at_call 17; (with_reducible refine (Out_some HB.out U4.out A4).mono ?_); rintro e w' ⟨rfl, ⟨nd, rfl⟩⟩; (try first | exact qA | exact qB))
    | (go_at_call 17; (with_reducible refine (Out_some (HN.out _) U4.out A4).mono ?_); rintro e w' ⟨rfl, ⟨nd, rfl⟩⟩; (try first | exact qA | exact qB))
    )
  go_ret
  exact ⟨by first | rfl | (simp; done), by repeat (first | exact HW1.out | exact HW2.out | apply pw_below_drewN | apply below_alloc | refine below_step ?_ HW2.out | exact Below.refl _ _)⟩

theorem ref03_Good_eq {m : Int} (hu : U m) : epicycleref03_Good.f m = some (decide (GoodM m)) := by
  unfold epicycleref03_Good.f
  rw [tmod_pos hu.1]
  by_cases h1 : m % 2 = 1
  · rw [if_pos h1]
    by_cases h2 : m > 1
    · rw [if_pos h2]
      congr 1
      rw [decide_eq_decide]
      unfold GoodM; omega
    · rw [if_neg h2, decide_eq_false (by unfold GoodM; omega)]
  · rw [if_neg h1, decide_eq_false (by unfold GoodM; omega)]

theorem Good_calls {m : Int} {b : Bool} {w : World} (h : Aside0 (epicycleref03_Good.f m = some b)) :
    Calls Try.prog 16 #[.int .u64 m] w fun e w' => e = .returned (.bool b) ∧ Drawn0 w w' := epicycleref03_Good.calls m b w h.out

set_option maxHeartbeats 4000000 in
theorem montReturns_walk (m a : Int) (w : World) (w0 : (Lit.int .u64 m).wf = true) (w1 : (Lit.int .u64 a).wf = true) :
    Calls Try.prog 3 #[.int .u64 m, .int .u64 a] w fun e w' => e = .returned (.bool true) ∧ Below w.heap.size w w' := by
  have hm := wf_U w0
  have ha := wf_U w1
  have g0 := ref03_Good_eq hm
  clear w0 w1
  by_cases hg : GoodM m
  · have G1 : Aside0 (epicycleref03_Good.f m = some true) := ⟨by rw [g0, decide_eq_true hg]⟩
    obtain ⟨q, hq⟩ : ∃ q, q = a % m := ⟨_, rfl⟩
    have hmod : Int.tmod a m = q := by rw [tmod_pos ha.1, hq]
    have hz : (m == 0) = false := beq_eq_false_iff_ne.mpr (good_ne hg)
    have hz1 : ¬ m = 0 := good_ne hg
    obtain ⟨x, hx⟩ : ∃ x, x = mIn m a := ⟨_, rfl⟩
    obtain ⟨o, ho⟩ : ∃ o, o = mOut m a := ⟨_, rfl⟩
    obtain ⟨n1, h1⟩ : ∃ n1, n1 = mOne m := ⟨_, rfl⟩
    have UX : Aside0 (U x) := ⟨by rw [hx]; exact U_mod hg _⟩
    have UO : Aside0 (U o) := ⟨by rw [ho]; exact U_mod hg _⟩
    have U1 : Aside0 (U n1) := ⟨by rw [h1]; exact U_mod hg _⟩
    have UA := Aside0.mk ha
    have A1 : Aside0 (q = mOut m x) := ⟨by rw [hx, out_in hg, hq]⟩
    have A2 : Aside0 (q = mIn m o) := ⟨by rw [ho, in_out hg, hq]⟩
    have A3 : Aside0 ((1 : Int) = mOut m n1) := ⟨by rw [h1, out_one hg]⟩
    have B1 := Aside0.mk hx
    have B2 := Aside0.mk ho
    have B3 := Aside0.mk h1
    have HM := Aside0.mk hg
    clear hq hx ho h1 ha hm hg g0
    go_enter Try.func3, Try.ntmps3
    go_wp2_with (first
      | (go_at_call 14; (with_reducible refine alive_calls.mono ?_); rintro e w1 ⟨rfl, hb⟩; have HW1 := Aside0.mk hb; clear hb)
      | (go_at_call 15; (with_reducible refine (New_good HM.out).mono ?_); rintro e w2 ⟨v, rfl, hc, hb⟩; have HB := Aside0.mk hc; have HN : Aside0 (∀ n, IsCtx (w2.drewN n) v m) := ⟨fun _ => hc⟩; have HW2 := Aside0.mk hb; clear hc hb)
      | (go_at_call 16; (with_reducible refine (Good_calls G1).mono ?_); rintro e w' ⟨rfl, ⟨nd, rfl⟩⟩))
    repeat (go_quiet (first | (go_at_call 18; (with_reducible refine (In_some HB.out UA.out B1).mono ?_); rintro e w' ⟨rfl, ⟨nd, rfl⟩⟩; (try first | exact qA | exact qB)) | (go_at_call 18; (with_reducible refine (In_some (HN.out _) UA.out B1).mono ?_); rintro e w' ⟨rfl, ⟨nd, rfl⟩⟩; (try first | exact qA | exact qB)) | (go_at_call 17; (with_reducible refine (Out_some HB.out UX.out A1).mono ?_); rintro e w' ⟨rfl, ⟨nd, rfl⟩⟩; (try first | exact qA | exact qB)) | (go_at_call 17; (with_reducible refine (Out_some (HN.out _) UX.out A1).mono ?_); rintro e w' ⟨rfl, ⟨nd, rfl⟩⟩; (try first | exact qA | exact qB)) | (go_at_call 17; (with_reducible refine (Out_some HB.out UA.out B2).mono ?_); rintro e w' ⟨rfl, ⟨nd, rfl⟩⟩; (try first | exact qA | exact qB)) | (go_at_call 17; (with_reducible refine (Out_some (HN.out _) UA.out B2).mono ?_); rintro e w' ⟨rfl, ⟨nd, rfl⟩⟩; (try first | exact qA | exact qB)) | (go_at_call 18; (with_reducible refine (In_some HB.out UO.out A2).mono ?_); rintro e w' ⟨rfl, ⟨nd, rfl⟩⟩; (try first | exact qA | exact qB)) | (go_at_call 18; (with_reducible refine (In_some (HN.out _) UO.out A2).mono ?_); rintro e w' ⟨rfl, ⟨nd, rfl⟩⟩; (try first | exact qA | exact qB)) | (go_at_call 19; (with_reducible refine (One_some HB.out B3).mono ?_); rintro e w' ⟨rfl, ⟨nd, rfl⟩⟩; (try first | exact qA | exact qB)) | (go_at_call 19; (with_reducible refine (One_some (HN.out _) B3).mono ?_); rintro e w' ⟨rfl, ⟨nd, rfl⟩⟩; (try first | exact qA | exact qB)) | (go_at_call 17; (with_reducible refine (Out_some HB.out U1.out A3).mono ?_); rintro e w' ⟨rfl, ⟨nd, rfl⟩⟩; (try first | exact qA | exact qB)) | (go_at_call 17; (with_reducible refine (Out_some (HN.out _) U1.out A3).mono ?_); rintro e w' ⟨rfl, ⟨nd, rfl⟩⟩; (try first | exact qA | exact qB))); try go_wp2_with (first | (go_at_call 18; (with_reducible refine (In_some HB.out UA.out B1).mono ?_); rintro e w' ⟨rfl, ⟨nd, rfl⟩⟩; (try first | exact qA | exact qB)) | (go_at_call 18; (with_reducible refine (In_some (HN.out _) UA.out B1).mono ?_); rintro e w' ⟨rfl, ⟨nd, rfl⟩⟩; (try first | exact qA | exact qB)) | (go_at_call 17; (with_reducible refine (Out_some HB.out UX.out A1).mono ?_); rintro e w' ⟨rfl, ⟨nd, rfl⟩⟩; (try first | exact qA | exact qB)) | (go_at_call 17; (with_reducible refine (Out_some (HN.out _) UX.out A1).mono ?_); rintro e w' ⟨rfl, ⟨nd, rfl⟩⟩; (try first | exact qA | exact qB)) | (go_at_call 17; (with_reducible refine (Out_some HB.out UA.out B2).mono ?_); rintro e w' ⟨rfl, ⟨nd, rfl⟩⟩; (try first | exact qA | exact qB)) | (go_at_call 17; (with_reducible refine (Out_some (HN.out _) UA.out B2).mono ?_); rintro e w' ⟨rfl, ⟨nd, rfl⟩⟩; (try first | exact qA | exact qB)) | (go_at_call 18; (with_reducible refine (In_some HB.out UO.out A2).mono ?_); rintro e w' ⟨rfl, ⟨nd, rfl⟩⟩; (try first | exact qA | exact qB)) | (go_at_call 18; (with_reducible refine (In_some (HN.out _) UO.out A2).mono ?_); rintro e w' ⟨rfl, ⟨nd, rfl⟩⟩; (try first | exact qA | exact qB)) | (go_at_call 19; (with_reducible refine (One_some HB.out B3).mono ?_); rintro e w' ⟨rfl, ⟨nd, rfl⟩⟩; (try first | exact qA | exact qB)) | (go_at_call 19; (with_reducible refine (One_some (HN.out _) B3).mono ?_); rintro e w' ⟨rfl, ⟨nd, rfl⟩⟩; (try first | exact qA | exact qB)) | (go_at_call 17; (with_reducible refine (Out_some HB.out U1.out A3).mono ?_); rintro e w' ⟨rfl, ⟨nd, rfl⟩⟩; (try first | exact qA | exact qB)) | (go_at_call 17; (with_reducible refine (Out_some (HN.out _) U1.out A3).mono ?_); rintro e w' ⟨rfl, ⟨nd, rfl⟩⟩; (try first | exact qA | exact qB))))
    go_ret
    exact ⟨by first | rfl | (simp; done), by repeat (first | exact HW1.out | exact HW2.out | apply pw_below_drewN | apply below_alloc | refine below_step ?_ HW2.out | exact Below.refl _ _)⟩
  · have G1 : Aside0 (epicycleref03_Good.f m = some false) := ⟨by rw [g0, decide_eq_false hg]⟩
    have HM := Aside0.mk hg
    have HU := Aside0.mk hm
    clear ha hm hg g0
    go_enter Try.func3, Try.ntmps3
    go_wp2_with (first
      | (go_at_call 14; (with_reducible refine alive_calls.mono ?_); rintro e w1 ⟨rfl, hb⟩; have HW1 := Aside0.mk hb; clear hb)
      | (go_at_call 15; (with_reducible refine (New_bad HU.out HM.out).mono ?_); rintro e w2 ⟨rfl, ⟨nd, rfl⟩⟩)
      | (go_at_call 16; (with_reducible refine (Good_calls G1).mono ?_); rintro e w' ⟨rfl, ⟨nd, rfl⟩⟩))
    go_ret
    exact ⟨by first | rfl | (simp; done), by repeat (first | exact HW1.out | exact HW2.out | apply pw_below_drewN | apply below_alloc | refine below_step ?_ HW2.out | exact Below.refl _ _)⟩

end Go.Proofs.Ytcnnaciilphadaa.Mont
