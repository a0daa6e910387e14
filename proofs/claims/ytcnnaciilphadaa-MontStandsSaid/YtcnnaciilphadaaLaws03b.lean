/- The statements of layer 3, walked: MontHalf, MontDoes, MontRests, MontStands. -/
import Derived.Test.YtcnnaciilphadaaLaws03
import Derived.Test.YtcnnaciilphadaaUpDown
namespace Go.Proofs.Ytcnnaciilphadaa.Mont
open Go Go.RowKit Go.Proofs.YtcnnaciilphadaaW.PrintWords Go.Proofs.YtcnnaciilphadaaW.PrintLast Go.Proofs.YtcnnaciilphadaaW.PrintMore Go.Proofs.Ytcnnaciilphadaa.Given Go.Proofs.Ytcnnaciilphadaa.M Go.Proofs.Ytcnnaciilphadaa.XR

set_option maxHeartbeats 8000000 in
set_option maxRecDepth 100000 in
theorem montHalf_walk (m a b : Int) (w : World) (w0 : (Lit.int .u64 m).wf = true) (w1 : (Lit.int .u64 a).wf = true) (w2 : (Lit.int .u64 b).wf = true) :
    Calls Try.prog 4 #[.int .u64 m, .int .u64 a, .int .u64 b] w fun e w' => e = .returned (.bool true) ∧ Below w.heap.size w w' := by
  have hm := wf_U w0
  have ha := wf_U w1
  have hb := wf_U w2
  have g0 := ref03_Good_eq hm
  clear w0 w1 w2
  by_cases hg : GoodM m
  · have G1 : Aside0 (epicycleref03_Good.f m = some true) := ⟨by rw [g0, decide_eq_true hg]⟩
    have hz : (m == 0) = false := beq_eq_false_iff_ne.mpr (good_ne hg)
    have hz1 : ¬ m = 0 := good_ne hg
    have HM := Aside0.mk hg
    have Um := Aside0.mk hm
    have Ua := Aside0.mk ha
    have Ub := Aside0.mk hb
    obtain ⟨x, e_x⟩ : ∃ x, x = mIn m a := ⟨_, rfl⟩
    have Ex := Aside0.mk e_x
    have Ux : Aside0 (U x) := ⟨by rw [e_x]; exact U_mod hg _⟩
    obtain ⟨p, e_p⟩ : ∃ p, p = a * b % m := ⟨_, rfl⟩
    have Ep := Aside0.mk e_p
    obtain ⟨o, e_o⟩ : ∃ o, o = mOne m := ⟨_, rfl⟩
    have Eo := Aside0.mk e_o
    have Uo : Aside0 (U o) := ⟨by rw [e_o]; exact U_mod hg _⟩
    obtain ⟨q, e_q⟩ : ∃ q, q = a % m := ⟨_, rfl⟩
    have Eq := Aside0.mk e_q
    obtain ⟨c, e_c⟩ : ∃ c, c = mMul m a b := ⟨_, rfl⟩
    have Ec := Aside0.mk e_c
    have A1 : Aside0 (p = mMul m x b) := ⟨by rw [e_p, e_x, mul_in hg]⟩
    have A2 : Aside0 (q = mMul m a o) := ⟨by rw [e_q, e_o, mul_one_ hg]⟩
    have A3 : Aside0 (c = mMul m b a) := ⟨by rw [e_c, mul_comm_]⟩
    have hmod : Int.tmod a m = q := by rw [tmod_pos ha.1, e_q]
    obtain ⟨kr, hkr⟩ := Ev.rounds (ref02_Mul_ev ha hb (good_U hg) (good_ne hg))
    have KR : Aside0 (epicycleref02_Mul.f kr a b m = some p) := ⟨by rw [hkr, e_p]⟩
    clear hkr
    clear e_x e_p e_o e_q e_c hm ha hb hg g0
    go_enter Try.func4, Try.ntmps4
    go_wp2_with (first
      | (go_at_call 14; (with_reducible refine alive_calls.mono ?_); rintro e w1 ⟨rfl, hb⟩; have HW1 := Aside0.mk hb; clear hb)
      | (go_at_call 15; (with_reducible refine (New_good HM.out).mono ?_); rintro e w2 ⟨v, rfl, hc, hb⟩; have HB := Aside0.mk hc; have HN : Aside0 (∀ n, IsCtx (w2.drewN n) v m) := ⟨fun _ => hc⟩; have HW2 := Aside0.mk hb; clear hc hb)
      | (go_at_call 15; (with_reducible refine (New_bad HU.out HM.out).mono ?_); rintro e w2 ⟨rfl, ⟨nd, rfl⟩⟩)
      | (go_at_call 16; (with_reducible refine (Good_calls G1).mono ?_); rintro e w' ⟨rfl, ⟨nd, rfl⟩⟩)
      | (go_at_call 18; (with_reducible refine (In_some HB.out Ua.out Ex).mono ?_); rintro e w' ⟨rfl, ⟨nd, rfl⟩⟩; (try first | exact qA | exact qB))
      | (go_at_call 18; (with_reducible refine (In_some (HN.out _) Ua.out Ex).mono ?_); rintro e w' ⟨rfl, ⟨nd, rfl⟩⟩; (try first | exact qA | exact qB))
      | (go_at_call 20; (with_reducible refine (Mul_some HB.out Ux.out Ub.out A1).mono ?_); rintro e w' ⟨rfl, ⟨nd, rfl⟩⟩; (try first | exact qA | exact qB))
      | (go_at_call 20; (with_reducible refine (Mul_some (HN.out _) Ux.out Ub.out A1).mono ?_); rintro e w' ⟨rfl, ⟨nd, rfl⟩⟩; (try first | exact qA | exact qB))
      | (go_at_call 21; (with_reducible refine (epicycleref02_Mul.calls kr a b m p _ KR.out).mono ?_); rintro e w' ⟨rfl, ⟨nd, rfl⟩⟩; (try first | exact qA | exact qB))
      | (go_at_call 19; (with_reducible refine (One_some HB.out Eo).mono ?_); rintro e w' ⟨rfl, ⟨nd, rfl⟩⟩; (try first | exact qA | exact qB))
      | (go_at_call 19; (with_reducible refine (One_some (HN.out _) Eo).mono ?_); rintro e w' ⟨rfl, ⟨nd, rfl⟩⟩; (try first | exact qA | exact qB))
      | (go_at_call 20; (with_reducible refine (Mul_some HB.out Ua.out Uo.out A2).mono ?_); rintro e w' ⟨rfl, ⟨nd, rfl⟩⟩; (try first | exact qA | exact qB))
      | (go_at_call 20; (with_reducible refine (Mul_some (HN.out _) Ua.out Uo.out A2).mono ?_); rintro e w' ⟨rfl, ⟨nd, rfl⟩⟩; (try first | exact qA | exact qB))
      | (go_at_call 20; (with_reducible refine (Mul_some HB.out Ua.out Ub.out Ec).mono ?_); rintro e w' ⟨rfl, ⟨nd, rfl⟩⟩; (try first | exact qA | exact qB))
      | (go_at_call 20; (with_reducible refine (Mul_some (HN.out _) Ua.out Ub.out Ec).mono ?_); rintro e w' ⟨rfl, ⟨nd, rfl⟩⟩; (try first | exact qA | exact qB))
      | (go_at_call 20; (with_reducible refine (Mul_some HB.out Ub.out Ua.out A3).mono ?_); rintro e w' ⟨rfl, ⟨nd, rfl⟩⟩; (try first | exact qA | exact qB))
      | (go_at_call 20; (with_reducible refine (Mul_some (HN.out _) Ub.out Ua.out A3).mono ?_); rintro e w' ⟨rfl, ⟨nd, rfl⟩⟩; (try first | exact qA | exact qB))
      )
    repeat (go_quiet (first | (go_at_call 18; (with_reducible refine (In_some HB.out Ua.out Ex).mono ?_); rintro e w' ⟨rfl, ⟨nd, rfl⟩⟩; (try first | exact qA | exact qB)) | (go_at_call 18; (with_reducible refine (In_some (HN.out _) Ua.out Ex).mono ?_); rintro e w' ⟨rfl, ⟨nd, rfl⟩⟩; (try first | exact qA | exact qB)) | (go_at_call 20; (with_reducible refine (Mul_some HB.out Ux.out Ub.out A1).mono ?_); rintro e w' ⟨rfl, ⟨nd, rfl⟩⟩; (try first | exact qA | exact qB)) | (go_at_call 20; (with_reducible refine (Mul_some (HN.out _) Ux.out Ub.out A1).mono ?_); rintro e w' ⟨rfl, ⟨nd, rfl⟩⟩; (try first | exact qA | exact qB)) | (go_at_call 21; (with_reducible refine (epicycleref02_Mul.calls kr a b m p _ KR.out).mono ?_); rintro e w' ⟨rfl, ⟨nd, rfl⟩⟩; (try first | exact qA | exact qB)) | (go_at_call 19; (with_reducible refine (One_some HB.out Eo).mono ?_); rintro e w' ⟨rfl, ⟨nd, rfl⟩⟩; (try first | exact qA | exact qB)) | (go_at_call 19; (with_reducible refine (One_some (HN.out _) Eo).mono ?_); rintro e w' ⟨rfl, ⟨nd, rfl⟩⟩; (try first | exact qA | exact qB)) | (go_at_call 20; (with_reducible refine (Mul_some HB.out Ua.out Uo.out A2).mono ?_); rintro e w' ⟨rfl, ⟨nd, rfl⟩⟩; (try first | exact qA | exact qB)) | (go_at_call 20; (with_reducible refine (Mul_some (HN.out _) Ua.out Uo.out A2).mono ?_); rintro e w' ⟨rfl, ⟨nd, rfl⟩⟩; (try first | exact qA | exact qB)) | (go_at_call 20; (with_reducible refine (Mul_some HB.out Ua.out Ub.out Ec).mono ?_); rintro e w' ⟨rfl, ⟨nd, rfl⟩⟩; (try first | exact qA | exact qB)) | (go_at_call 20; (with_reducible refine (Mul_some (HN.out _) Ua.out Ub.out Ec).mono ?_); rintro e w' ⟨rfl, ⟨nd, rfl⟩⟩; (try first | exact qA | exact qB)) | (go_at_call 20; (with_reducible refine (Mul_some HB.out Ub.out Ua.out A3).mono ?_); rintro e w' ⟨rfl, ⟨nd, rfl⟩⟩; (try first | exact qA | exact qB)) | (go_at_call 20; (with_reducible refine (Mul_some (HN.out _) Ub.out Ua.out A3).mono ?_); rintro e w' ⟨rfl, ⟨nd, rfl⟩⟩; (try first | exact qA | exact qB))); try go_wp2_with (first | (go_at_call 18; (with_reducible refine (In_some HB.out Ua.out Ex).mono ?_); rintro e w' ⟨rfl, ⟨nd, rfl⟩⟩; (try first | exact qA | exact qB)) | (go_at_call 18; (with_reducible refine (In_some (HN.out _) Ua.out Ex).mono ?_); rintro e w' ⟨rfl, ⟨nd, rfl⟩⟩; (try first | exact qA | exact qB)) | (go_at_call 20; (with_reducible refine (Mul_some HB.out Ux.out Ub.out A1).mono ?_); rintro e w' ⟨rfl, ⟨nd, rfl⟩⟩; (try first | exact qA | exact qB)) | (go_at_call 20; (with_reducible refine (Mul_some (HN.out _) Ux.out Ub.out A1).mono ?_); rintro e w' ⟨rfl, ⟨nd, rfl⟩⟩; (try first | exact qA | exact qB)) | (go_at_call 21; (with_reducible refine (epicycleref02_Mul.calls kr a b m p _ KR.out).mono ?_); rintro e w' ⟨rfl, ⟨nd, rfl⟩⟩; (try first | exact qA | exact qB)) | (go_at_call 19; (with_reducible refine (One_some HB.out Eo).mono ?_); rintro e w' ⟨rfl, ⟨nd, rfl⟩⟩; (try first | exact qA | exact qB)) | (go_at_call 19; (with_reducible refine (One_some (HN.out _) Eo).mono ?_); rintro e w' ⟨rfl, ⟨nd, rfl⟩⟩; (try first | exact qA | exact qB)) | (go_at_call 20; (with_reducible refine (Mul_some HB.out Ua.out Uo.out A2).mono ?_); rintro e w' ⟨rfl, ⟨nd, rfl⟩⟩; (try first | exact qA | exact qB)) | (go_at_call 20; (with_reducible refine (Mul_some (HN.out _) Ua.out Uo.out A2).mono ?_); rintro e w' ⟨rfl, ⟨nd, rfl⟩⟩; (try first | exact qA | exact qB)) | (go_at_call 20; (with_reducible refine (Mul_some HB.out Ua.out Ub.out Ec).mono ?_); rintro e w' ⟨rfl, ⟨nd, rfl⟩⟩; (try first | exact qA | exact qB)) | (go_at_call 20; (with_reducible refine (Mul_some (HN.out _) Ua.out Ub.out Ec).mono ?_); rintro e w' ⟨rfl, ⟨nd, rfl⟩⟩; (try first | exact qA | exact qB)) | (go_at_call 20; (with_reducible refine (Mul_some HB.out Ub.out Ua.out A3).mono ?_); rintro e w' ⟨rfl, ⟨nd, rfl⟩⟩; (try first | exact qA | exact qB)) | (go_at_call 20; (with_reducible refine (Mul_some (HN.out _) Ub.out Ua.out A3).mono ?_); rintro e w' ⟨rfl, ⟨nd, rfl⟩⟩; (try first | exact qA | exact qB))))
    go_ret
    exact ⟨by first | rfl | (simp; done), by repeat (first | exact HW1.out | exact HW2.out | apply pw_below_drewN | apply below_alloc | refine below_step ?_ HW2.out | exact Below.refl _ _)⟩
  · have G1 : Aside0 (epicycleref03_Good.f m = some false) := ⟨by rw [g0, decide_eq_false hg]⟩
    have HM := Aside0.mk hg
    have HU := Aside0.mk hm
    clear hm ha hb hg g0
    go_enter Try.func4, Try.ntmps4
    go_wp2_with (first
      | (go_at_call 14; (with_reducible refine alive_calls.mono ?_); rintro e w1 ⟨rfl, hb⟩; have HW1 := Aside0.mk hb; clear hb)
      | (go_at_call 15; (with_reducible refine (New_good HM.out).mono ?_); rintro e w2 ⟨v, rfl, hc, hb⟩; have HB := Aside0.mk hc; have HN : Aside0 (∀ n, IsCtx (w2.drewN n) v m) := ⟨fun _ => hc⟩; have HW2 := Aside0.mk hb; clear hc hb)
      | (go_at_call 15; (with_reducible refine (New_bad HU.out HM.out).mono ?_); rintro e w2 ⟨rfl, ⟨nd, rfl⟩⟩)
      | (go_at_call 16; (with_reducible refine (Good_calls G1).mono ?_); rintro e w' ⟨rfl, ⟨nd, rfl⟩⟩))
    go_ret
    exact ⟨by first | rfl | (simp; done), by repeat (first | exact HW1.out | exact HW2.out | apply pw_below_drewN | apply below_alloc | refine below_step ?_ HW2.out | exact Below.refl _ _)⟩
set_option maxHeartbeats 8000000 in
set_option maxRecDepth 100000 in
theorem montDoes_walk (m a b e : Int) (w : World) (w0 : (Lit.int .u64 m).wf = true) (w1 : (Lit.int .u64 a).wf = true) (w2 : (Lit.int .u64 b).wf = true) (w3 : (Lit.int .u64 e).wf = true) :
    Calls Try.prog 5 #[.int .u64 m, .int .u64 a, .int .u64 b, .int .u64 e] w fun e w' => e = .returned (.bool true) ∧ Below w.heap.size w w' := by
  have hm := wf_U w0
  have ha := wf_U w1
  have hb := wf_U w2
  have he := wf_U w3
  have g0 := ref03_Good_eq hm
  clear w0 w1 w2 w3
  by_cases hg : GoodM m
  · have G1 : Aside0 (epicycleref03_Good.f m = some true) := ⟨by rw [g0, decide_eq_true hg]⟩
    have hz : (m == 0) = false := beq_eq_false_iff_ne.mpr (good_ne hg)
    have hz1 : ¬ m = 0 := good_ne hg
    have HM := Aside0.mk hg
    have Um := Aside0.mk hm
    have Ua := Aside0.mk ha
    have Ub := Aside0.mk hb
    have Ue := Aside0.mk he
    obtain ⟨x, e_x⟩ : ∃ x, x = mIn m a := ⟨_, rfl⟩
    have Ex := Aside0.mk e_x
    have Ux : Aside0 (U x) := ⟨by rw [e_x]; exact U_mod hg _⟩
    obtain ⟨y, e_y⟩ : ∃ y, y = mIn m b := ⟨_, rfl⟩
    have Ey := Aside0.mk e_y
    have Uy : Aside0 (U y) := ⟨by rw [e_y]; exact U_mod hg _⟩
    obtain ⟨p, e_p⟩ : ∃ p, p = a * b % m := ⟨_, rfl⟩
    have Ep := Aside0.mk e_p
    obtain ⟨xp, e_xp⟩ : ∃ xp, xp = mIn m (a * b) := ⟨_, rfl⟩
    have Exp := Aside0.mk e_xp
    have Uxp : Aside0 (U xp) := ⟨by rw [e_xp]; exact U_mod hg _⟩
    obtain ⟨s, e_s⟩ : ∃ s, s = (a + b) % m := ⟨_, rfl⟩
    have Es := Aside0.mk e_s
    obtain ⟨xs, e_xs⟩ : ∃ xs, xs = mIn m (a + b) := ⟨_, rfl⟩
    have Exs := Aside0.mk e_xs
    have Uxs : Aside0 (U xs) := ⟨by rw [e_xs]; exact U_mod hg _⟩
    obtain ⟨nb, e_nb⟩ : ∃ nb, nb = (-b) % m := ⟨_, rfl⟩
    have Enb := Aside0.mk e_nb
    have Unb : Aside0 (U nb) := ⟨by rw [e_nb]; exact U_mod hg _⟩
    obtain ⟨d, e_d⟩ : ∃ d, d = (a - b) % m := ⟨_, rfl⟩
    have Ed := Aside0.mk e_d
    obtain ⟨xd, e_xd⟩ : ∃ xd, xd = mIn m (a - b) := ⟨_, rfl⟩
    have Exd := Aside0.mk e_xd
    have Uxd : Aside0 (U xd) := ⟨by rw [e_xd]; exact U_mod hg _⟩
    obtain ⟨n, e_n⟩ : ∃ n, n = (-a) % m := ⟨_, rfl⟩
    have En := Aside0.mk e_n
    obtain ⟨xn, e_xn⟩ : ∃ xn, xn = mIn m (-a) := ⟨_, rfl⟩
    have Exn := Aside0.mk e_xn
    have Uxn : Aside0 (U xn) := ⟨by rw [e_xn]; exact U_mod hg _⟩
    obtain ⟨z, e_z⟩ : ∃ z, z = a ^ e.toNat % m := ⟨_, rfl⟩
    have Ez := Aside0.mk e_z
    obtain ⟨xz, e_xz⟩ : ∃ xz, xz = mIn m (a ^ e.toNat) := ⟨_, rfl⟩
    have Exz := Aside0.mk e_xz
    have Uxz : Aside0 (U xz) := ⟨by rw [e_xz]; exact U_mod hg _⟩
    have gu := good_U hg
    have gn := good_ne hg
    have P1 : Aside0 (xp = mMul m x y) := ⟨by rw [e_xp, e_x, e_y, mul_in_in hg]⟩
    have P2 : Aside0 (p = mOut m xp) := ⟨by rw [e_p, e_xp, out_in hg]⟩
    have S1 : Aside0 (xs = mAdd m x y) := ⟨by rw [e_xs, e_x, e_y, add_in_in]⟩
    have S2 : Aside0 (s = mOut m xs) := ⟨by rw [e_s, e_xs, out_in hg]⟩
    have D1 : Aside0 (xd = mSub m x y) := ⟨by rw [e_xd, e_x, e_y, sub_in_in]⟩
    have D2 : Aside0 (d = mOut m xd) := ⟨by rw [e_d, e_xd, out_in hg]⟩
    have N1 : Aside0 (xn = mNeg m x) := ⟨by rw [e_xn, e_x, neg_in]⟩
    have N2 : Aside0 (n = mOut m xn) := ⟨by rw [e_n, e_xn, out_in hg]⟩
    have Z1 : Aside0 (xz = mPow m x e) := ⟨by rw [e_xz, e_x, pow_in hg]⟩
    have Z2 : Aside0 (z = mOut m xz) := ⟨by rw [e_z, e_xz, out_in hg]⟩
    obtain ⟨kp, hkp⟩ := Ev.rounds (ref02_Mul_ev ha hb gu gn)
    have KP : Aside0 (epicycleref02_Mul.f kp a b m = some p) := ⟨by rw [hkp, e_p]⟩
    have KS : Aside0 (epicycleref02_Add.f a b m = some s) := ⟨by rw [ref02_Add_eq ha hb gu gn, e_s]⟩
    have KB : Aside0 (epicycleref02_Neg.f b m = some nb) := ⟨by rw [ref02_Neg_eq hb gu gn, e_nb]⟩
    have KD : Aside0 (epicycleref02_Add.f a nb m = some d) := ⟨by rw [ref02_Add_eq ha Unb.out gu gn, e_d, e_nb, Int.add_emod_emod, Int.sub_eq_add_neg]⟩
    have KN : Aside0 (epicycleref02_Neg.f a m = some n) := ⟨by rw [ref02_Neg_eq ha gu gn, e_n]⟩
    obtain ⟨kz, hkz⟩ := Ev.rounds (ref02_Pow_ev ha he gu gn)
    have KZ : Aside0 (epicycleref02_Pow.f kz a e m = some z) := ⟨by rw [hkz, e_z]⟩
    clear hkp hkz gu gn
    clear e_x e_y e_p e_xp e_s e_xs e_nb e_d e_xd e_n e_xn e_z e_xz hm ha hb he hg g0
    go_enter Try.func5, Try.ntmps5
    go_wp2_with (first
      | (go_at_call 14; (with_reducible refine alive_calls.mono ?_); rintro e w1 ⟨rfl, hb⟩; have HW1 := Aside0.mk hb; clear hb)
      | (go_at_call 15; (with_reducible refine (New_good HM.out).mono ?_); rintro e w2 ⟨v, rfl, hc, hb⟩; have HB := Aside0.mk hc; have HN : Aside0 (∀ n, IsCtx (w2.drewN n) v m) := ⟨fun _ => hc⟩; have HW2 := Aside0.mk hb; clear hc hb)
      | (go_at_call 15; (with_reducible refine (New_bad HU.out HM.out).mono ?_); rintro e w2 ⟨rfl, ⟨nd, rfl⟩⟩)
      | (go_at_call 16; (with_reducible refine (Good_calls G1).mono ?_); rintro e w' ⟨rfl, ⟨nd, rfl⟩⟩)
      | (go_at_call 18; (with_reducible refine (In_some HB.out Ua.out Ex).mono ?_); rintro e w' ⟨rfl, ⟨nd, rfl⟩⟩; (try first | exact qA | exact qB))
      | (go_at_call 18; (with_reducible refine (In_some (HN.out _) Ua.out Ex).mono ?_); rintro e w' ⟨rfl, ⟨nd, rfl⟩⟩; (try first | exact qA | exact qB))
      | (go_at_call 18; (with_reducible refine (In_some HB.out Ub.out Ey).mono ?_); rintro e w' ⟨rfl, ⟨nd, rfl⟩⟩; (try first | exact qA | exact qB))
      | (go_at_call 18; (with_reducible refine (In_some (HN.out _) Ub.out Ey).mono ?_); rintro e w' ⟨rfl, ⟨nd, rfl⟩⟩; (try first | exact qA | exact qB))
      | (go_at_call 20; (with_reducible refine (Mul_some HB.out Ux.out Uy.out P1).mono ?_); rintro e w' ⟨rfl, ⟨nd, rfl⟩⟩; (try first | exact qA | exact qB))
      | (go_at_call 20; (with_reducible refine (Mul_some (HN.out _) Ux.out Uy.out P1).mono ?_); rintro e w' ⟨rfl, ⟨nd, rfl⟩⟩; (try first | exact qA | exact qB))
      | (go_at_call 17; (with_reducible refine (Out_some HB.out Uxp.out P2).mono ?_); rintro e w' ⟨rfl, ⟨nd, rfl⟩⟩; (try first | exact qA | exact qB))
      | (go_at_call 17; (with_reducible refine (Out_some (HN.out _) Uxp.out P2).mono ?_); rintro e w' ⟨rfl, ⟨nd, rfl⟩⟩; (try first | exact qA | exact qB))
      | (go_at_call 21; (with_reducible refine (epicycleref02_Mul.calls kp a b m p _ KP.out).mono ?_); rintro e w' ⟨rfl, ⟨nd, rfl⟩⟩; (try first | exact qA | exact qB))
      | (go_at_call 22; (with_reducible refine (Add_some HB.out Ux.out Uy.out S1).mono ?_); rintro e w' ⟨rfl, ⟨nd, rfl⟩⟩; (try first | exact qA | exact qB))
      | (go_at_call 22; (with_reducible refine (Add_some (HN.out _) Ux.out Uy.out S1).mono ?_); rintro e w' ⟨rfl, ⟨nd, rfl⟩⟩; (try first | exact qA | exact qB))
      | (go_at_call 17; (with_reducible refine (Out_some HB.out Uxs.out S2).mono ?_); rintro e w' ⟨rfl, ⟨nd, rfl⟩⟩; (try first | exact qA | exact qB))
      | (go_at_call 17; (with_reducible refine (Out_some (HN.out _) Uxs.out S2).mono ?_); rintro e w' ⟨rfl, ⟨nd, rfl⟩⟩; (try first | exact qA | exact qB))
      | (go_at_call 23; (with_reducible refine (epicycleref02_Add.calls a b m s _ KS.out).mono ?_); rintro e w' ⟨rfl, ⟨nd, rfl⟩⟩; (try first | exact qA | exact qB))
      | (go_at_call 24; (with_reducible refine (Sub_some HB.out Ux.out Uy.out D1).mono ?_); rintro e w' ⟨rfl, ⟨nd, rfl⟩⟩; (try first | exact qA | exact qB))
      | (go_at_call 24; (with_reducible refine (Sub_some (HN.out _) Ux.out Uy.out D1).mono ?_); rintro e w' ⟨rfl, ⟨nd, rfl⟩⟩; (try first | exact qA | exact qB))
      | (go_at_call 17; (with_reducible refine (Out_some HB.out Uxd.out D2).mono ?_); rintro e w' ⟨rfl, ⟨nd, rfl⟩⟩; (try first | exact qA | exact qB))
      | (go_at_call 17; (with_reducible refine (Out_some (HN.out _) Uxd.out D2).mono ?_); rintro e w' ⟨rfl, ⟨nd, rfl⟩⟩; (try first | exact qA | exact qB))
      | (go_at_call 25; (with_reducible refine (epicycleref02_Neg.calls b m nb _ KB.out).mono ?_); rintro e w' ⟨rfl, ⟨nd, rfl⟩⟩; (try first | exact qA | exact qB))
      | (go_at_call 23; (with_reducible refine (epicycleref02_Add.calls a nb m d _ KD.out).mono ?_); rintro e w' ⟨rfl, ⟨nd, rfl⟩⟩; (try first | exact qA | exact qB))
      | (go_at_call 26; (with_reducible refine (Neg_some HB.out Ux.out N1).mono ?_); rintro e w' ⟨rfl, ⟨nd, rfl⟩⟩; (try first | exact qA | exact qB))
      | (go_at_call 26; (with_reducible refine (Neg_some (HN.out _) Ux.out N1).mono ?_); rintro e w' ⟨rfl, ⟨nd, rfl⟩⟩; (try first | exact qA | exact qB))
      | (go_at_call 17; (with_reducible refine (Out_some HB.out Uxn.out N2).mono ?_); rintro e w' ⟨rfl, ⟨nd, rfl⟩⟩; (try first | exact qA | exact qB))
      | (go_at_call 17; (with_reducible refine (Out_some (HN.out _) Uxn.out N2).mono ?_); rintro e w' ⟨rfl, ⟨nd, rfl⟩⟩; (try first | exact qA | exact qB))
      | (go_at_call 25; (with_reducible refine (epicycleref02_Neg.calls a m n _ KN.out).mono ?_); rintro e w' ⟨rfl, ⟨nd, rfl⟩⟩; (try first | exact qA | exact qB))
      | (go_at_call 27; (with_reducible refine (Pow_some HB.out Ux.out Ue.out Z1).mono ?_); rintro e w' ⟨rfl, ⟨nd, rfl⟩⟩; (try first | exact qA | exact qB))
      | (go_at_call 27; (with_reducible refine (Pow_some (HN.out _) Ux.out Ue.out Z1).mono ?_); rintro e w' ⟨rfl, ⟨nd, rfl⟩⟩; (try first | exact qA | exact qB))
      | (go_at_call 17; (with_reducible refine (Out_some HB.out Uxz.out Z2).mono ?_); rintro e w' ⟨rfl, ⟨nd, rfl⟩⟩; (try first | exact qA | exact qB))
      | (go_at_call 17; (with_reducible refine (Out_some (HN.out _) Uxz.out Z2).mono ?_); rintro e w' ⟨rfl, ⟨nd, rfl⟩⟩; (try first | exact qA | exact qB))
      | (go_at_call 28; (with_reducible refine (epicycleref02_Pow.calls kz a e m z _ KZ.out).mono ?_); rintro e w' ⟨rfl, ⟨nd, rfl⟩⟩; (try first | exact qA | exact qB))
      )
    repeat (go_quiet (first | (go_at_call 18; (with_reducible refine (In_some HB.out Ua.out Ex).mono ?_); rintro e w' ⟨rfl, ⟨nd, rfl⟩⟩; (try first | exact qA | exact qB)) | (go_at_call 18; (with_reducible refine (In_some (HN.out _) Ua.out Ex).mono ?_); rintro e w' ⟨rfl, ⟨nd, rfl⟩⟩; (try first | exact qA | exact qB)) | (go_at_call 18; (with_reducible refine (In_some HB.out Ub.out Ey).mono ?_); rintro e w' ⟨rfl, ⟨nd, rfl⟩⟩; (try first | exact qA | exact qB)) | (go_at_call 18; (with_reducible refine (In_some (HN.out _) Ub.out Ey).mono ?_); rintro e w' ⟨rfl, ⟨nd, rfl⟩⟩; (try first | exact qA | exact qB)) | (go_at_call 20; (with_reducible refine (Mul_some HB.out Ux.out Uy.out P1).mono ?_); rintro e w' ⟨rfl, ⟨nd, rfl⟩⟩; (try first | exact qA | exact qB)) | (go_at_call 20; (with_reducible refine (Mul_some (HN.out _) Ux.out Uy.out P1).mono ?_); rintro e w' ⟨rfl, ⟨nd, rfl⟩⟩; (try first | exact qA | exact qB)) | (go_at_call 17; (with_reducible refine (Out_some HB.out Uxp.out P2).mono ?_); rintro e w' ⟨rfl, ⟨nd, rfl⟩⟩; (try first | exact qA | exact qB)) | (go_at_call 17; (with_reducible refine (Out_some (HN.out _) Uxp.out P2).mono ?_); rintro e w' ⟨rfl, ⟨nd, rfl⟩⟩; (try first | exact qA | exact qB)) | (go_at_call 21; (with_reducible refine (epicycleref02_Mul.calls kp a b m p _ KP.out).mono ?_); rintro e w' ⟨rfl, ⟨nd, rfl⟩⟩; (try first | exact qA | exact qB)) | (go_at_call 22; (with_reducible refine (Add_some HB.out Ux.out Uy.out S1).mono ?_); rintro e w' ⟨rfl, ⟨nd, rfl⟩⟩; (try first | exact qA | exact qB)) | (go_at_call 22; (with_reducible refine (Add_some (HN.out _) Ux.out Uy.out S1).mono ?_); rintro e w' ⟨rfl, ⟨nd, rfl⟩⟩; (try first | exact qA | exact qB)) | (go_at_call 17; (with_reducible refine (Out_some HB.out Uxs.out S2).mono ?_); rintro e w' ⟨rfl, ⟨nd, rfl⟩⟩; (try first | exact qA | exact qB)) | (go_at_call 17; (with_reducible refine (Out_some (HN.out _) Uxs.out S2).mono ?_); rintro e w' ⟨rfl, ⟨nd, rfl⟩⟩; (try first | exact qA | exact qB)) | (go_at_call 23; (with_reducible refine (epicycleref02_Add.calls a b m s _ KS.out).mono ?_); rintro e w' ⟨rfl, ⟨nd, rfl⟩⟩; (try first | exact qA | exact qB)) | (go_at_call 24; (with_reducible refine (Sub_some HB.out Ux.out Uy.out D1).mono ?_); rintro e w' ⟨rfl, ⟨nd, rfl⟩⟩; (try first | exact qA | exact qB)) | (go_at_call 24; (with_reducible refine (Sub_some (HN.out _) Ux.out Uy.out D1).mono ?_); rintro e w' ⟨rfl, ⟨nd, rfl⟩⟩; (try first | exact qA | exact qB)) | (go_at_call 17; (with_reducible refine (Out_some HB.out Uxd.out D2).mono ?_); rintro e w' ⟨rfl, ⟨nd, rfl⟩⟩; (try first | exact qA | exact qB)) | (go_at_call 17; (with_reducible refine (Out_some (HN.out _) Uxd.out D2).mono ?_); rintro e w' ⟨rfl, ⟨nd, rfl⟩⟩; (try first | exact qA | exact qB)) | (go_at_call 25; (with_reducible refine (epicycleref02_Neg.calls b m nb _ KB.out).mono ?_); rintro e w' ⟨rfl, ⟨nd, rfl⟩⟩; (try first | exact qA | exact qB)) | (go_at_call 23; (with_reducible refine (epicycleref02_Add.calls a nb m d _ KD.out).mono ?_); rintro e w' ⟨rfl, ⟨nd, rfl⟩⟩; (try first | exact qA | exact qB)) | (go_at_call 26; (with_reducible refine (Neg_some HB.out Ux.out N1).mono ?_); rintro e w' ⟨rfl, ⟨nd, rfl⟩⟩; (try first | exact qA | exact qB)) | (go_at_call 26; (with_reducible refine (Neg_some (HN.out _) Ux.out N1).mono ?_); rintro e w' ⟨rfl, ⟨nd, rfl⟩⟩; (try first | exact qA | exact qB)) | (go_at_call 17; (with_reducible refine (Out_some HB.out Uxn.out N2).mono ?_); rintro e w' ⟨rfl, ⟨nd, rfl⟩⟩; (try first | exact qA | exact qB)) | (go_at_call 17; (with_reducible refine (Out_some (HN.out _) Uxn.out N2).mono ?_); rintro e w' ⟨rfl, ⟨nd, rfl⟩⟩; (try first | exact qA | exact qB)) | (go_at_call 25; (with_reducible refine (epicycleref02_Neg.calls a m n _ KN.out).mono ?_); rintro e w' ⟨rfl, ⟨nd, rfl⟩⟩; (try first | exact qA | exact qB)) | (go_at_call 27; (with_reducible refine (Pow_some HB.out Ux.out Ue.out Z1).mono ?_); rintro e w' ⟨rfl, ⟨nd, rfl⟩⟩; (try first | exact qA | exact qB)) | (go_at_call 27; (with_reducible refine (Pow_some (HN.out _) Ux.out Ue.out Z1).mono ?_); rintro e w' ⟨rfl, ⟨nd, rfl⟩⟩; (try first | exact qA | exact qB)) | (go_at_call 17; (with_reducible refine (Out_some HB.out Uxz.out Z2).mono ?_); rintro e w' ⟨rfl, ⟨nd, rfl⟩⟩; (try first | exact qA | exact qB)) | (go_at_call 17; (with_reducible refine (Out_some (HN.out _) Uxz.out Z2).mono ?_); rintro e w' ⟨rfl, ⟨nd, rfl⟩⟩; (try first | exact qA | exact qB)) | (go_at_call 28; (with_reducible refine (epicycleref02_Pow.calls kz a e m z _ KZ.out).mono ?_); rintro e w' ⟨rfl, ⟨nd, rfl⟩⟩; (try first | exact qA | exact qB))); try go_wp2_with (first | (go_at_call 18; (with_reducible refine (In_some HB.out Ua.out Ex).mono ?_); rintro e w' ⟨rfl, ⟨nd, rfl⟩⟩; (try first | exact qA | exact qB)) | (go_at_call 18; (with_reducible refine (In_some (HN.out _) Ua.out Ex).mono ?_); rintro e w' ⟨rfl, ⟨nd, rfl⟩⟩; (try first | exact qA | exact qB)) | (go_at_call 18; (with_reducible refine (In_some HB.out Ub.out Ey).mono ?_); rintro e w' ⟨rfl, ⟨nd, rfl⟩⟩; (try first | exact qA | exact qB)) | (go_at_call 18; (with_reducible refine (In_some (HN.out _) Ub.out Ey).mono ?_); rintro e w' ⟨rfl, ⟨nd, rfl⟩⟩; (try first | exact qA | exact qB)) | (go_at_call 20; (with_reducible refine (Mul_some HB.out Ux.out Uy.out P1).mono ?_); rintro e w' ⟨rfl, ⟨nd, rfl⟩⟩; (try first | exact qA | exact qB)) | (go_at_call 20; (with_reducible refine (Mul_some (HN.out _) Ux.out Uy.out P1).mono ?_); rintro e w' ⟨rfl, ⟨nd, rfl⟩⟩; (try first | exact qA | exact qB)) | (go_at_call 17; (with_reducible refine (Out_some HB.out Uxp.out P2).mono ?_); rintro e w' ⟨rfl, ⟨nd, rfl⟩⟩; (try first | exact qA | exact qB)) | (go_at_call 17; (with_reducible refine (Out_some (HN.out _) Uxp.out P2).mono ?_); rintro e w' ⟨rfl, ⟨nd, rfl⟩⟩; (try first | exact qA | exact qB)) | (go_at_call 21; (with_reducible refine (epicycleref02_Mul.calls kp a b m p _ KP.out).mono ?_); rintro e w' ⟨rfl, ⟨nd, rfl⟩⟩; (try first | exact qA | exact qB)) | (go_at_call 22; (with_reducible refine (Add_some HB.out Ux.out Uy.out S1).mono ?_); rintro e w' ⟨rfl, ⟨nd, rfl⟩⟩; (try first | exact qA | exact qB)) | (go_at_call 22; (with_reducible refine (Add_some (HN.out _) Ux.out Uy.out S1).mono ?_); rintro e w' ⟨rfl, ⟨nd, rfl⟩⟩; (try first | exact qA | exact qB)) | (go_at_call 17; (with_reducible refine (Out_some HB.out Uxs.out S2).mono ?_); rintro e w' ⟨rfl, ⟨nd, rfl⟩⟩; (try first | exact qA | exact qB)) | (go_at_call 17; (with_reducible refine (Out_some (HN.out _) Uxs.out S2).mono ?_); rintro e w' ⟨rfl, ⟨nd, rfl⟩⟩; (try first | exact qA | exact qB)) | (go_at_call 23; (with_reducible refine (epicycleref02_Add.calls a b m s _ KS.out).mono ?_); rintro e w' ⟨rfl, ⟨nd, rfl⟩⟩; (try first | exact qA | exact qB)) | (go_at_call 24; (with_reducible refine (Sub_some HB.out Ux.out Uy.out D1).mono ?_); rintro e w' ⟨rfl, ⟨nd, rfl⟩⟩; (try first | exact qA | exact qB)) | (go_at_call 24; (with_reducible refine (Sub_some (HN.out _) Ux.out Uy.out D1).mono ?_); rintro e w' ⟨rfl, ⟨nd, rfl⟩⟩; (try first | exact qA | exact qB)) | (go_at_call 17; (with_reducible refine (Out_some HB.out Uxd.out D2).mono ?_); rintro e w' ⟨rfl, ⟨nd, rfl⟩⟩; (try first | exact qA | exact qB)) | (go_at_call 17; (with_reducible refine (Out_some (HN.out _) Uxd.out D2).mono ?_); rintro e w' ⟨rfl, ⟨nd, rfl⟩⟩; (try first | exact qA | exact qB)) | (go_at_call 25; (with_reducible refine (epicycleref02_Neg.calls b m nb _ KB.out).mono ?_); rintro e w' ⟨rfl, ⟨nd, rfl⟩⟩; (try first | exact qA | exact qB)) | (go_at_call 23; (with_reducible refine (epicycleref02_Add.calls a nb m d _ KD.out).mono ?_); rintro e w' ⟨rfl, ⟨nd, rfl⟩⟩; (try first | exact qA | exact qB)) | (go_at_call 26; (with_reducible refine (Neg_some HB.out Ux.out N1).mono ?_); rintro e w' ⟨rfl, ⟨nd, rfl⟩⟩; (try first | exact qA | exact qB)) | (go_at_call 26; (with_reducible refine (Neg_some (HN.out _) Ux.out N1).mono ?_); rintro e w' ⟨rfl, ⟨nd, rfl⟩⟩; (try first | exact qA | exact qB)) | (go_at_call 17; (with_reducible refine (Out_some HB.out Uxn.out N2).mono ?_); rintro e w' ⟨rfl, ⟨nd, rfl⟩⟩; (try first | exact qA | exact qB)) | (go_at_call 17; (with_reducible refine (Out_some (HN.out _) Uxn.out N2).mono ?_); rintro e w' ⟨rfl, ⟨nd, rfl⟩⟩; (try first | exact qA | exact qB)) | (go_at_call 25; (with_reducible refine (epicycleref02_Neg.calls a m n _ KN.out).mono ?_); rintro e w' ⟨rfl, ⟨nd, rfl⟩⟩; (try first | exact qA | exact qB)) | (go_at_call 27; (with_reducible refine (Pow_some HB.out Ux.out Ue.out Z1).mono ?_); rintro e w' ⟨rfl, ⟨nd, rfl⟩⟩; (try first | exact qA | exact qB)) | (go_at_call 27; (with_reducible refine (Pow_some (HN.out _) Ux.out Ue.out Z1).mono ?_); rintro e w' ⟨rfl, ⟨nd, rfl⟩⟩; (try first | exact qA | exact qB)) | (go_at_call 17; (with_reducible refine (Out_some HB.out Uxz.out Z2).mono ?_); rintro e w' ⟨rfl, ⟨nd, rfl⟩⟩; (try first | exact qA | exact qB)) | (go_at_call 17; (with_reducible refine (Out_some (HN.out _) Uxz.out Z2).mono ?_); rintro e w' ⟨rfl, ⟨nd, rfl⟩⟩; (try first | exact qA | exact qB)) | (go_at_call 28; (with_reducible refine (epicycleref02_Pow.calls kz a e m z _ KZ.out).mono ?_); rintro e w' ⟨rfl, ⟨nd, rfl⟩⟩; (try first | exact qA | exact qB))))
    go_ret
    exact ⟨by first | rfl | (simp; done), by repeat (first | exact HW1.out | exact HW2.out | apply pw_below_drewN | apply below_alloc | refine below_step ?_ HW2.out | exact Below.refl _ _)⟩
  · have G1 : Aside0 (epicycleref03_Good.f m = some false) := ⟨by rw [g0, decide_eq_false hg]⟩
    have HM := Aside0.mk hg
    have HU := Aside0.mk hm
    clear hm ha hb he hg g0
    go_enter Try.func5, Try.ntmps5
    go_wp2_with (first
      | (go_at_call 14; (with_reducible refine alive_calls.mono ?_); rintro e w1 ⟨rfl, hb⟩; have HW1 := Aside0.mk hb; clear hb)
      | (go_at_call 15; (with_reducible refine (New_good HM.out).mono ?_); rintro e w2 ⟨v, rfl, hc, hb⟩; have HB := Aside0.mk hc; have HN : Aside0 (∀ n, IsCtx (w2.drewN n) v m) := ⟨fun _ => hc⟩; have HW2 := Aside0.mk hb; clear hc hb)
      | (go_at_call 15; (with_reducible refine (New_bad HU.out HM.out).mono ?_); rintro e w2 ⟨rfl, ⟨nd, rfl⟩⟩)
      | (go_at_call 16; (with_reducible refine (Good_calls G1).mono ?_); rintro e w' ⟨rfl, ⟨nd, rfl⟩⟩))
    go_ret
    exact ⟨by first | rfl | (simp; done), by repeat (first | exact HW1.out | exact HW2.out | apply pw_below_drewN | apply below_alloc | refine below_step ?_ HW2.out | exact Below.refl _ _)⟩
set_option maxHeartbeats 8000000 in
set_option maxRecDepth 100000 in
theorem montRests_walk (m x y : Int) (w : World) (w0 : (Lit.int .u64 m).wf = true) (w1 : (Lit.int .u64 x).wf = true) (w2 : (Lit.int .u64 y).wf = true) :
    Calls Try.prog 6 #[.int .u64 m, .int .u64 x, .int .u64 y] w fun e w' => e = .returned (.bool true) ∧ Below w.heap.size w w' := by
  have hm := wf_U w0
  have hx := wf_U w1
  have hy := wf_U w2
  have g0 := ref03_Good_eq hm
  clear w0 w1 w2
  by_cases hg : GoodM m
  · have G1 : Aside0 (epicycleref03_Good.f m = some true) := ⟨by rw [g0, decide_eq_true hg]⟩
    have hz : (m == 0) = false := beq_eq_false_iff_ne.mpr (good_ne hg)
    have hz1 : ¬ m = 0 := good_ne hg
    have HM := Aside0.mk hg
    have Um := Aside0.mk hm
    have Ux := Aside0.mk hx
    have Uy := Aside0.mk hy
    obtain ⟨u, e_u⟩ : ∃ u, u = x % m := ⟨_, rfl⟩
    have Eu := Aside0.mk e_u
    have Uu : Aside0 (U u) := ⟨by rw [e_u]; exact U_mod hg _⟩
    obtain ⟨t, e_t⟩ : ∃ t, t = y % m := ⟨_, rfl⟩
    have Et := Aside0.mk e_t
    have Ut : Aside0 (U t) := ⟨by rw [e_t]; exact U_mod hg _⟩
    obtain ⟨f1, e_f1⟩ : ∃ f1, f1 = mMul m x y := ⟨_, rfl⟩
    have Ef1 := Aside0.mk e_f1
    obtain ⟨f2, e_f2⟩ : ∃ f2, f2 = mIn m x := ⟨_, rfl⟩
    have Ef2 := Aside0.mk e_f2
    obtain ⟨f3, e_f3⟩ : ∃ f3, f3 = mOut m x := ⟨_, rfl⟩
    have Ef3 := Aside0.mk e_f3
    obtain ⟨f4, e_f4⟩ : ∃ f4, f4 = mAdd m x y := ⟨_, rfl⟩
    have Ef4 := Aside0.mk e_f4
    obtain ⟨f5, e_f5⟩ : ∃ f5, f5 = mSub m x y := ⟨_, rfl⟩
    have Ef5 := Aside0.mk e_f5
    obtain ⟨f6, e_f6⟩ : ∃ f6, f6 = mNeg m x := ⟨_, rfl⟩
    have Ef6 := Aside0.mk e_f6
    obtain ⟨f7, e_f7⟩ : ∃ f7, f7 = mPow m x y := ⟨_, rfl⟩
    have Ef7 := Aside0.mk e_f7
    have hm1 : Int.tmod x m = u := by rw [tmod_pos hx.1, e_u]
    have hm2 : Int.tmod y m = t := by rw [tmod_pos hy.1, e_t]
    have F1 : Aside0 (f1 = mMul m u t) := ⟨by rw [e_f1, e_u, e_t, mMul_rests]⟩
    have F2 : Aside0 (f2 = mIn m u) := ⟨by rw [e_f2, e_u, in_rest]⟩
    have F3 : Aside0 (f3 = mOut m u) := ⟨by rw [e_f3, e_u, mOut_rest]⟩
    have F4 : Aside0 (f4 = mAdd m u t) := ⟨by rw [e_f4, e_u, e_t]; unfold mAdd; rw [Int.emod_add_emod, Int.add_emod_emod]⟩
    have F5 : Aside0 (f5 = mSub m u t) := ⟨by rw [e_f5, e_u, e_t, mSub_rests]⟩
    have F6 : Aside0 (f6 = mNeg m u) := ⟨by rw [e_f6, e_u, mNeg_rest]⟩
    have F7 : Aside0 (f7 = mPow m u y) := ⟨by rw [e_f7, e_u, mPow_rest]⟩
    have l1 : decide (f1 < m) = true := decide_eq_true (by rw [e_f1]; exact lt_mod hg _)
    have l2 : decide (f2 < m) = true := decide_eq_true (by rw [e_f2]; exact lt_mod hg _)
    have l3 : decide (f3 < m) = true := decide_eq_true (by rw [e_f3]; exact lt_mod hg _)
    have l4 : decide (f4 < m) = true := decide_eq_true (by rw [e_f4]; exact lt_mod hg _)
    have l5 : decide (f5 < m) = true := decide_eq_true (by rw [e_f5]; exact lt_mod hg _)
    have l6 : decide (f6 < m) = true := decide_eq_true (by rw [e_f6]; exact lt_mod hg _)
    have l7 : decide (f7 < m) = true := decide_eq_true (by rw [e_f7]; exact lt_mod hg _)
    clear e_u e_t e_f1 e_f2 e_f3 e_f4 e_f5 e_f6 e_f7 hm hx hy hg g0
    go_enter Try.func6, Try.ntmps6
    go_wp2_with (first
      | (go_at_call 14; (with_reducible refine alive_calls.mono ?_); rintro e w1 ⟨rfl, hb⟩; have HW1 := Aside0.mk hb; clear hb)
      | (go_at_call 15; (with_reducible refine (New_good HM.out).mono ?_); rintro e w2 ⟨v, rfl, hc, hb⟩; have HB := Aside0.mk hc; have HN : Aside0 (∀ n, IsCtx (w2.drewN n) v m) := ⟨fun _ => hc⟩; have HW2 := Aside0.mk hb; clear hc hb)
      | (go_at_call 15; (with_reducible refine (New_bad HU.out HM.out).mono ?_); rintro e w2 ⟨rfl, ⟨nd, rfl⟩⟩)
      | (go_at_call 16; (with_reducible refine (Good_calls G1).mono ?_); rintro e w' ⟨rfl, ⟨nd, rfl⟩⟩)
      | (go_at_call 20; (with_reducible refine (Mul_some HB.out Ux.out Uy.out Ef1).mono ?_); rintro e w' ⟨rfl, ⟨nd, rfl⟩⟩; (try first | exact qA | exact qB))
      | (go_at_call 20; (with_reducible refine (Mul_some (HN.out _) Ux.out Uy.out Ef1).mono ?_); rintro e w' ⟨rfl, ⟨nd, rfl⟩⟩; (try first | exact qA | exact qB))
      | (go_at_call 20; (with_reducible refine (Mul_some HB.out Uu.out Ut.out F1).mono ?_); rintro e w' ⟨rfl, ⟨nd, rfl⟩⟩; (try first | exact qA | exact qB))
      | (go_at_call 20; (with_reducible refine (Mul_some (HN.out _) Uu.out Ut.out F1).mono ?_); rintro e w' ⟨rfl, ⟨nd, rfl⟩⟩; (try first | exact qA | exact qB))
      | (go_at_call 18; (with_reducible refine (In_some HB.out Ux.out Ef2).mono ?_); rintro e w' ⟨rfl, ⟨nd, rfl⟩⟩; (try first | exact qA | exact qB))
      | (go_at_call 18; (with_reducible refine (In_some (HN.out _) Ux.out Ef2).mono ?_); rintro e w' ⟨rfl, ⟨nd, rfl⟩⟩; (try first | exact qA | exact qB))
      | (go_at_call 18; (with_reducible refine (In_some HB.out Uu.out F2).mono ?_); rintro e w' ⟨rfl, ⟨nd, rfl⟩⟩; (try first | exact qA | exact qB))
      | (go_at_call 18; (with_reducible refine (In_some (HN.out _) Uu.out F2).mono ?_); rintro e w' ⟨rfl, ⟨nd, rfl⟩⟩; (try first | exact qA | exact qB))
      | (go_at_call 17; (with_reducible refine (Out_some HB.out Ux.out Ef3).mono ?_); rintro e w' ⟨rfl, ⟨nd, rfl⟩⟩; (try first | exact qA | exact qB))
      | (go_at_call 17; (with_reducible refine (Out_some (HN.out _) Ux.out Ef3).mono ?_); rintro e w' ⟨rfl, ⟨nd, rfl⟩⟩; (try first | exact qA | exact qB))
      | (go_at_call 17; (with_reducible refine (Out_some HB.out Uu.out F3).mono ?_); rintro e w' ⟨rfl, ⟨nd, rfl⟩⟩; (try first | exact qA | exact qB))
      | (go_at_call 17; (with_reducible refine (Out_some (HN.out _) Uu.out F3).mono ?_); rintro e w' ⟨rfl, ⟨nd, rfl⟩⟩; (try first | exact qA | exact qB))
      | (go_at_call 22; (with_reducible refine (Add_some HB.out Ux.out Uy.out Ef4).mono ?_); rintro e w' ⟨rfl, ⟨nd, rfl⟩⟩; (try first | exact qA | exact qB))
      | (go_at_call 22; (with_reducible refine (Add_some (HN.out _) Ux.out Uy.out Ef4).mono ?_); rintro e w' ⟨rfl, ⟨nd, rfl⟩⟩; (try first | exact qA | exact qB))
      | (go_at_call 22; (with_reducible refine (Add_some HB.out Uu.out Ut.out F4).mono ?_); rintro e w' ⟨rfl, ⟨nd, rfl⟩⟩; (try first | exact qA | exact qB))
      | (go_at_call 22; (with_reducible refine (Add_some (HN.out _) Uu.out Ut.out F4).mono ?_); rintro e w' ⟨rfl, ⟨nd, rfl⟩⟩; (try first | exact qA | exact qB))
      | (go_at_call 24; (with_reducible refine (Sub_some HB.out Ux.out Uy.out Ef5).mono ?_); rintro e w' ⟨rfl, ⟨nd, rfl⟩⟩; (try first | exact qA | exact qB))
      | (go_at_call 24; (with_reducible refine (Sub_some (HN.out _) Ux.out Uy.out Ef5).mono ?_); rintro e w' ⟨rfl, ⟨nd, rfl⟩⟩; (try first | exact qA | exact qB))
      | (go_at_call 24; (with_reducible refine (Sub_some HB.out Uu.out Ut.out F5).mono ?_); rintro e w' ⟨rfl, ⟨nd, rfl⟩⟩; (try first | exact qA | exact qB))
      | (go_at_call 24; (with_reducible refine (Sub_some (HN.out _) Uu.out Ut.out F5).mono ?_); rintro e w' ⟨rfl, ⟨nd, rfl⟩⟩; (try first | exact qA | exact qB))
      | (go_at_call 26; (with_reducible refine (Neg_some HB.out Ux.out Ef6).mono ?_); rintro e w' ⟨rfl, ⟨nd, rfl⟩⟩; (try first | exact qA | exact qB))
      | (go_at_call 26; (with_reducible refine (Neg_some (HN.out _) Ux.out Ef6).mono ?_); rintro e w' ⟨rfl, ⟨nd, rfl⟩⟩; (try first | exact qA | exact qB))
      | (go_at_call 26; (with_reducible refine (Neg_some HB.out Uu.out F6).mono ?_); rintro e w' ⟨rfl, ⟨nd, rfl⟩⟩; (try first | exact qA | exact qB))
      | (go_at_call 26; (with_reducible refine (Neg_some (HN.out _) Uu.out F6).mono ?_); rintro e w' ⟨rfl, ⟨nd, rfl⟩⟩; (try first | exact qA | exact qB))
      | (go_at_call 27; (with_reducible refine (Pow_some HB.out Ux.out Uy.out Ef7).mono ?_); rintro e w' ⟨rfl, ⟨nd, rfl⟩⟩; (try first | exact qA | exact qB))
      | (go_at_call 27; (with_reducible refine (Pow_some (HN.out _) Ux.out Uy.out Ef7).mono ?_); rintro e w' ⟨rfl, ⟨nd, rfl⟩⟩; (try first | exact qA | exact qB))
      | (go_at_call 27; (with_reducible refine (Pow_some HB.out Uu.out Uy.out F7).mono ?_); rintro e w' ⟨rfl, ⟨nd, rfl⟩⟩; (try first | exact qA | exact qB))
      | (go_at_call 27; (with_reducible refine (Pow_some (HN.out _) Uu.out Uy.out F7).mono ?_); rintro e w' ⟨rfl, ⟨nd, rfl⟩⟩; (try first | exact qA | exact qB))
      )
    repeat (go_quiet (first | (go_at_call 20; (with_reducible refine (Mul_some HB.out Ux.out Uy.out Ef1).mono ?_); rintro e w' ⟨rfl, ⟨nd, rfl⟩⟩; (try first | exact qA | exact qB)) | (go_at_call 20; (with_reducible refine (Mul_some (HN.out _) Ux.out Uy.out Ef1).mono ?_); rintro e w' ⟨rfl, ⟨nd, rfl⟩⟩; (try first | exact qA | exact qB)) | (go_at_call 20; (with_reducible refine (Mul_some HB.out Uu.out Ut.out F1).mono ?_); rintro e w' ⟨rfl, ⟨nd, rfl⟩⟩; (try first | exact qA | exact qB)) | (go_at_call 20; (with_reducible refine (Mul_some (HN.out _) Uu.out Ut.out F1).mono ?_); rintro e w' ⟨rfl, ⟨nd, rfl⟩⟩; (try first | exact qA | exact qB)) | (go_at_call 18; (with_reducible refine (In_some HB.out Ux.out Ef2).mono ?_); rintro e w' ⟨rfl, ⟨nd, rfl⟩⟩; (try first | exact qA | exact qB)) | (go_at_call 18; (with_reducible refine (In_some (HN.out _) Ux.out Ef2).mono ?_); rintro e w' ⟨rfl, ⟨nd, rfl⟩⟩; (try first | exact qA | exact qB)) | (go_at_call 18; (with_reducible refine (In_some HB.out Uu.out F2).mono ?_); rintro e w' ⟨rfl, ⟨nd, rfl⟩⟩; (try first | exact qA | exact qB)) | (go_at_call 18; (with_reducible refine (In_some (HN.out _) Uu.out F2).mono ?_); rintro e w' ⟨rfl, ⟨nd, rfl⟩⟩; (try first | exact qA | exact qB)) | (go_at_call 17; (with_reducible refine (Out_some HB.out Ux.out Ef3).mono ?_); rintro e w' ⟨rfl, ⟨nd, rfl⟩⟩; (try first | exact qA | exact qB)) | (go_at_call 17; (with_reducible refine (Out_some (HN.out _) Ux.out Ef3).mono ?_); rintro e w' ⟨rfl, ⟨nd, rfl⟩⟩; (try first | exact qA | exact qB)) | (go_at_call 17; (with_reducible refine (Out_some HB.out Uu.out F3).mono ?_); rintro e w' ⟨rfl, ⟨nd, rfl⟩⟩; (try first | exact qA | exact qB)) | (go_at_call 17; (with_reducible refine (Out_some (HN.out _) Uu.out F3).mono ?_); rintro e w' ⟨rfl, ⟨nd, rfl⟩⟩; (try first | exact qA | exact qB)) | (go_at_call 22; (with_reducible refine (Add_some HB.out Ux.out Uy.out Ef4).mono ?_); rintro e w' ⟨rfl, ⟨nd, rfl⟩⟩; (try first | exact qA | exact qB)) | (go_at_call 22; (with_reducible refine (Add_some (HN.out _) Ux.out Uy.out Ef4).mono ?_); rintro e w' ⟨rfl, ⟨nd, rfl⟩⟩; (try first | exact qA | exact qB)) | (go_at_call 22; (with_reducible refine (Add_some HB.out Uu.out Ut.out F4).mono ?_); rintro e w' ⟨rfl, ⟨nd, rfl⟩⟩; (try first | exact qA | exact qB)) | (go_at_call 22; (with_reducible refine (Add_some (HN.out _) Uu.out Ut.out F4).mono ?_); rintro e w' ⟨rfl, ⟨nd, rfl⟩⟩; (try first | exact qA | exact qB)) | (go_at_call 24; (with_reducible refine (Sub_some HB.out Ux.out Uy.out Ef5).mono ?_); rintro e w' ⟨rfl, ⟨nd, rfl⟩⟩; (try first | exact qA | exact qB)) | (go_at_call 24; (with_reducible refine (Sub_some (HN.out _) Ux.out Uy.out Ef5).mono ?_); rintro e w' ⟨rfl, ⟨nd, rfl⟩⟩; (try first | exact qA | exact qB)) | (go_at_call 24; (with_reducible refine (Sub_some HB.out Uu.out Ut.out F5).mono ?_); rintro e w' ⟨rfl, ⟨nd, rfl⟩⟩; (try first | exact qA | exact qB)) | (go_at_call 24; (with_reducible refine (Sub_some (HN.out _) Uu.out Ut.out F5).mono ?_); rintro e w' ⟨rfl, ⟨nd, rfl⟩⟩; (try first | exact qA | exact qB)) | (go_at_call 26; (with_reducible refine (Neg_some HB.out Ux.out Ef6).mono ?_); rintro e w' ⟨rfl, ⟨nd, rfl⟩⟩; (try first | exact qA | exact qB)) | (go_at_call 26; (with_reducible refine (Neg_some (HN.out _) Ux.out Ef6).mono ?_); rintro e w' ⟨rfl, ⟨nd, rfl⟩⟩; (try first | exact qA | exact qB)) | (go_at_call 26; (with_reducible refine (Neg_some HB.out Uu.out F6).mono ?_); rintro e w' ⟨rfl, ⟨nd, rfl⟩⟩; (try first | exact qA | exact qB)) | (go_at_call 26; (with_reducible refine (Neg_some (HN.out _) Uu.out F6).mono ?_); rintro e w' ⟨rfl, ⟨nd, rfl⟩⟩; (try first | exact qA | exact qB)) | (go_at_call 27; (with_reducible refine (Pow_some HB.out Ux.out Uy.out Ef7).mono ?_); rintro e w' ⟨rfl, ⟨nd, rfl⟩⟩; (try first | exact qA | exact qB)) | (go_at_call 27; (with_reducible refine (Pow_some (HN.out _) Ux.out Uy.out Ef7).mono ?_); rintro e w' ⟨rfl, ⟨nd, rfl⟩⟩; (try first | exact qA | exact qB)) | (go_at_call 27; (with_reducible refine (Pow_some HB.out Uu.out Uy.out F7).mono ?_); rintro e w' ⟨rfl, ⟨nd, rfl⟩⟩; (try first | exact qA | exact qB)) | (go_at_call 27; (with_reducible refine (Pow_some (HN.out _) Uu.out Uy.out F7).mono ?_); rintro e w' ⟨rfl, ⟨nd, rfl⟩⟩; (try first | exact qA | exact qB))); try go_wp2_with (first | (go_at_call 20; (with_reducible refine (Mul_some HB.out Ux.out Uy.out Ef1).mono ?_); rintro e w' ⟨rfl, ⟨nd, rfl⟩⟩; (try first | exact qA | exact qB)) | (go_at_call 20; (with_reducible refine (Mul_some (HN.out _) Ux.out Uy.out Ef1).mono ?_); rintro e w' ⟨rfl, ⟨nd, rfl⟩⟩; (try first | exact qA | exact qB)) | (go_at_call 20; (with_reducible refine (Mul_some HB.out Uu.out Ut.out F1).mono ?_); rintro e w' ⟨rfl, ⟨nd, rfl⟩⟩; (try first | exact qA | exact qB)) | (go_at_call 20; (with_reducible refine (Mul_some (HN.out _) Uu.out Ut.out F1).mono ?_); rintro e w' ⟨rfl, ⟨nd, rfl⟩⟩; (try first | exact qA | exact qB)) | (go_at_call 18; (with_reducible refine (In_some HB.out Ux.out Ef2).mono ?_); rintro e w' ⟨rfl, ⟨nd, rfl⟩⟩; (try first | exact qA | exact qB)) | (go_at_call 18; (with_reducible refine (In_some (HN.out _) Ux.out Ef2).mono ?_); rintro e w' ⟨rfl, ⟨nd, rfl⟩⟩; (try first | exact qA | exact qB)) | (go_at_call 18; (with_reducible refine (In_some HB.out Uu.out F2).mono ?_); rintro e w' ⟨rfl, ⟨nd, rfl⟩⟩; (try first | exact qA | exact qB)) | (go_at_call 18; (with_reducible refine (In_some (HN.out _) Uu.out F2).mono ?_); rintro e w' ⟨rfl, ⟨nd, rfl⟩⟩; (try first | exact qA | exact qB)) | (go_at_call 17; (with_reducible refine (Out_some HB.out Ux.out Ef3).mono ?_); rintro e w' ⟨rfl, ⟨nd, rfl⟩⟩; (try first | exact qA | exact qB)) | (go_at_call 17; (with_reducible refine (Out_some (HN.out _) Ux.out Ef3).mono ?_); rintro e w' ⟨rfl, ⟨nd, rfl⟩⟩; (try first | exact qA | exact qB)) | (go_at_call 17; (with_reducible refine (Out_some HB.out Uu.out F3).mono ?_); rintro e w' ⟨rfl, ⟨nd, rfl⟩⟩; (try first | exact qA | exact qB)) | (go_at_call 17; (with_reducible refine (Out_some (HN.out _) Uu.out F3).mono ?_); rintro e w' ⟨rfl, ⟨nd, rfl⟩⟩; (try first | exact qA | exact qB)) | (go_at_call 22; (with_reducible refine (Add_some HB.out Ux.out Uy.out Ef4).mono ?_); rintro e w' ⟨rfl, ⟨nd, rfl⟩⟩; (try first | exact qA | exact qB)) | (go_at_call 22; (with_reducible refine (Add_some (HN.out _) Ux.out Uy.out Ef4).mono ?_); rintro e w' ⟨rfl, ⟨nd, rfl⟩⟩; (try first | exact qA | exact qB)) | (go_at_call 22; (with_reducible refine (Add_some HB.out Uu.out Ut.out F4).mono ?_); rintro e w' ⟨rfl, ⟨nd, rfl⟩⟩; (try first | exact qA | exact qB)) | (go_at_call 22; (with_reducible refine (Add_some (HN.out _) Uu.out Ut.out F4).mono ?_); rintro e w' ⟨rfl, ⟨nd, rfl⟩⟩; (try first | exact qA | exact qB)) | (go_at_call 24; (with_reducible refine (Sub_some HB.out Ux.out Uy.out Ef5).mono ?_); rintro e w' ⟨rfl, ⟨nd, rfl⟩⟩; (try first | exact qA | exact qB)) | (go_at_call 24; (with_reducible refine (Sub_some (HN.out _) Ux.out Uy.out Ef5).mono ?_); rintro e w' ⟨rfl, ⟨nd, rfl⟩⟩; (try first | exact qA | exact qB)) | (go_at_call 24; (with_reducible refine (Sub_some HB.out Uu.out Ut.out F5).mono ?_); rintro e w' ⟨rfl, ⟨nd, rfl⟩⟩; (try first | exact qA | exact qB)) | (go_at_call 24; (with_reducible refine (Sub_some (HN.out _) Uu.out Ut.out F5).mono ?_); rintro e w' ⟨rfl, ⟨nd, rfl⟩⟩; (try first | exact qA | exact qB)) | (go_at_call 26; (with_reducible refine (Neg_some HB.out Ux.out Ef6).mono ?_); rintro e w' ⟨rfl, ⟨nd, rfl⟩⟩; (try first | exact qA | exact qB)) | (go_at_call 26; (with_reducible refine (Neg_some (HN.out _) Ux.out Ef6).mono ?_); rintro e w' ⟨rfl, ⟨nd, rfl⟩⟩; (try first | exact qA | exact qB)) | (go_at_call 26; (with_reducible refine (Neg_some HB.out Uu.out F6).mono ?_); rintro e w' ⟨rfl, ⟨nd, rfl⟩⟩; (try first | exact qA | exact qB)) | (go_at_call 26; (with_reducible refine (Neg_some (HN.out _) Uu.out F6).mono ?_); rintro e w' ⟨rfl, ⟨nd, rfl⟩⟩; (try first | exact qA | exact qB)) | (go_at_call 27; (with_reducible refine (Pow_some HB.out Ux.out Uy.out Ef7).mono ?_); rintro e w' ⟨rfl, ⟨nd, rfl⟩⟩; (try first | exact qA | exact qB)) | (go_at_call 27; (with_reducible refine (Pow_some (HN.out _) Ux.out Uy.out Ef7).mono ?_); rintro e w' ⟨rfl, ⟨nd, rfl⟩⟩; (try first | exact qA | exact qB)) | (go_at_call 27; (with_reducible refine (Pow_some HB.out Uu.out Uy.out F7).mono ?_); rintro e w' ⟨rfl, ⟨nd, rfl⟩⟩; (try first | exact qA | exact qB)) | (go_at_call 27; (with_reducible refine (Pow_some (HN.out _) Uu.out Uy.out F7).mono ?_); rintro e w' ⟨rfl, ⟨nd, rfl⟩⟩; (try first | exact qA | exact qB))))
    go_ret
    exact ⟨by first | rfl | (simp; done), by repeat (first | exact HW1.out | exact HW2.out | apply pw_below_drewN | apply below_alloc | refine below_step ?_ HW2.out | exact Below.refl _ _)⟩
  · have G1 : Aside0 (epicycleref03_Good.f m = some false) := ⟨by rw [g0, decide_eq_false hg]⟩
    have HM := Aside0.mk hg
    have HU := Aside0.mk hm
    clear hm hx hy hg g0
    go_enter Try.func6, Try.ntmps6
    go_wp2_with (first
      | (go_at_call 14; (with_reducible refine alive_calls.mono ?_); rintro e w1 ⟨rfl, hb⟩; have HW1 := Aside0.mk hb; clear hb)
      | (go_at_call 15; (with_reducible refine (New_good HM.out).mono ?_); rintro e w2 ⟨v, rfl, hc, hb⟩; have HB := Aside0.mk hc; have HN : Aside0 (∀ n, IsCtx (w2.drewN n) v m) := ⟨fun _ => hc⟩; have HW2 := Aside0.mk hb; clear hc hb)
      | (go_at_call 15; (with_reducible refine (New_bad HU.out HM.out).mono ?_); rintro e w2 ⟨rfl, ⟨nd, rfl⟩⟩)
      | (go_at_call 16; (with_reducible refine (Good_calls G1).mono ?_); rintro e w' ⟨rfl, ⟨nd, rfl⟩⟩))
    go_ret
    exact ⟨by first | rfl | (simp; done), by repeat (first | exact HW1.out | exact HW2.out | apply pw_below_drewN | apply below_alloc | refine below_step ?_ HW2.out | exact Below.refl _ _)⟩
set_option maxHeartbeats 8000000 in
set_option maxRecDepth 100000 in
theorem montStands_walk (m x y : Int) (w : World) (w0 : (Lit.int .u64 m).wf = true) (w1 : (Lit.int .u64 x).wf = true) (w2 : (Lit.int .u64 y).wf = true) :
    Calls Try.prog 7 #[.int .u64 m, .int .u64 x, .int .u64 y] w fun e w' => e = .returned (.bool true) ∧ Below w.heap.size w w' := by
  have hm := wf_U w0
  have hx := wf_U w1
  have hy := wf_U w2
  have g0 := ref03_Good_eq hm
  clear w0 w1 w2
  by_cases hg : GoodM m
  · have G1 : Aside0 (epicycleref03_Good.f m = some true) := ⟨by rw [g0, decide_eq_true hg]⟩
    have hz : (m == 0) = false := beq_eq_false_iff_ne.mpr (good_ne hg)
    have hz1 : ¬ m = 0 := good_ne hg
    have HM := Aside0.mk hg
    have Um := Aside0.mk hm
    have Ux := Aside0.mk hx
    have Uy := Aside0.mk hy
    obtain ⟨o, e_o⟩ : ∃ o, o = mOne m := ⟨_, rfl⟩
    have Eo := Aside0.mk e_o
    obtain ⟨i, e_i⟩ : ∃ i, i = mIn m x := ⟨_, rfl⟩
    have Ei := Aside0.mk e_i
    obtain ⟨q, e_q⟩ : ∃ q, q = x % m := ⟨_, rfl⟩
    have Eq := Aside0.mk e_q
    have Uq : Aside0 (U q) := ⟨by rw [e_q]; exact U_mod hg _⟩
    obtain ⟨d, e_d⟩ : ∃ d, d = mOut m x := ⟨_, rfl⟩
    have Ed := Aside0.mk e_d
    obtain ⟨p, e_p⟩ : ∃ p, p = mMul m x y := ⟨_, rfl⟩
    have Ep := Aside0.mk e_p
    obtain ⟨r, e_r⟩ : ∃ r, r = x * y % m := ⟨_, rfl⟩
    have Er := Aside0.mk e_r
    have Ur : Aside0 (U r) := ⟨by rw [e_r]; exact U_mod hg _⟩
    have hmod : Int.tmod x m = q := by rw [tmod_pos hx.1, e_q]
    have gu := good_U hg
    have gn := good_ne hg
    obtain ⟨k1, hk1⟩ := Ev.rounds (ref03_Up_ev (a := 1) hg (by unfold U; omega))
    have K1 : Aside0 (epicycleref03_Up.f k1 1 m = some o) := ⟨by rw [hk1, e_o]; unfold mIn mOne; rw [Int.one_mul]⟩
    obtain ⟨k2, hk2⟩ := Ev.rounds (ref03_Up_ev (a := x) hg hx)
    have K2 : Aside0 (epicycleref03_Up.f k2 x m = some i) := ⟨by rw [hk2, e_i]⟩
    obtain ⟨k3, hk3⟩ := Ev.rounds (ref03_Down_ev (a := q) hg (by rw [e_q]; exact ge_mod hg _) (by rw [e_q]; exact lt_mod hg _))
    have K3 : Aside0 (epicycleref03_Down.f k3 q m = some d) := ⟨by rw [hk3, e_d, e_q, mOut_rest]⟩
    obtain ⟨k4, hk4⟩ := Ev.rounds (ref02_Mul_ev hx hy gu gn)
    have K4 : Aside0 (epicycleref02_Mul.f k4 x y m = some r) := ⟨by rw [hk4, e_r]⟩
    obtain ⟨k5, hk5⟩ := Ev.rounds (ref03_Down_ev (a := r) hg (by rw [e_r]; exact ge_mod hg _) (by rw [e_r]; exact lt_mod hg _))
    have K5 : Aside0 (epicycleref03_Down.f k5 r m = some p) := ⟨by rw [hk5, e_p, e_r, mOut_rest]; rfl⟩
    clear hk1 hk2 hk3 hk4 hk5 gu gn
    clear e_o e_i e_q e_d e_p e_r hm hx hy hg g0
    go_enter Try.func7, Try.ntmps7
    go_wp2_with (first
      | (go_at_call 14; (with_reducible refine alive_calls.mono ?_); rintro e w1 ⟨rfl, hb⟩; have HW1 := Aside0.mk hb; clear hb)
      | (go_at_call 15; (with_reducible refine (New_good HM.out).mono ?_); rintro e w2 ⟨v, rfl, hc, hb⟩; have HB := Aside0.mk hc; have HN : Aside0 (∀ n, IsCtx (w2.drewN n) v m) := ⟨fun _ => hc⟩; have HW2 := Aside0.mk hb; clear hc hb)
      | (go_at_call 15; (with_reducible refine (New_bad HU.out HM.out).mono ?_); rintro e w2 ⟨rfl, ⟨nd, rfl⟩⟩)
      | (go_at_call 16; (with_reducible refine (Good_calls G1).mono ?_); rintro e w' ⟨rfl, ⟨nd, rfl⟩⟩)
      | (go_at_call 29; (with_reducible refine (Modulus_some HB.out).mono ?_); rintro e w' ⟨rfl, ⟨nd, rfl⟩⟩; (try first | exact qA | exact qB))
      | (go_at_call 29; (with_reducible refine (Modulus_some (HN.out _)).mono ?_); rintro e w' ⟨rfl, ⟨nd, rfl⟩⟩; (try first | exact qA | exact qB))
      | (go_at_call 19; (with_reducible refine (One_some HB.out Eo).mono ?_); rintro e w' ⟨rfl, ⟨nd, rfl⟩⟩; (try first | exact qA | exact qB))
      | (go_at_call 19; (with_reducible refine (One_some (HN.out _) Eo).mono ?_); rintro e w' ⟨rfl, ⟨nd, rfl⟩⟩; (try first | exact qA | exact qB))
      | (go_at_call 30; (with_reducible refine (epicycleref03_Up.calls k1 1 m o _ K1.out).mono ?_); rintro e w' ⟨rfl, ⟨nd, rfl⟩⟩; (try first | exact qA | exact qB))
      | (go_at_call 18; (with_reducible refine (In_some HB.out Ux.out Ei).mono ?_); rintro e w' ⟨rfl, ⟨nd, rfl⟩⟩; (try first | exact qA | exact qB))
      | (go_at_call 18; (with_reducible refine (In_some (HN.out _) Ux.out Ei).mono ?_); rintro e w' ⟨rfl, ⟨nd, rfl⟩⟩; (try first | exact qA | exact qB))
      | (go_at_call 30; (with_reducible refine (epicycleref03_Up.calls k2 x m i _ K2.out).mono ?_); rintro e w' ⟨rfl, ⟨nd, rfl⟩⟩; (try first | exact qA | exact qB))
      | (go_at_call 17; (with_reducible refine (Out_some HB.out Ux.out Ed).mono ?_); rintro e w' ⟨rfl, ⟨nd, rfl⟩⟩; (try first | exact qA | exact qB))
      | (go_at_call 17; (with_reducible refine (Out_some (HN.out _) Ux.out Ed).mono ?_); rintro e w' ⟨rfl, ⟨nd, rfl⟩⟩; (try first | exact qA | exact qB))
      | (go_at_call 31; (with_reducible refine (epicycleref03_Down.calls k3 q m d _ K3.out).mono ?_); rintro e w' ⟨rfl, ⟨nd, rfl⟩⟩; (try first | exact qA | exact qB))
      | (go_at_call 20; (with_reducible refine (Mul_some HB.out Ux.out Uy.out Ep).mono ?_); rintro e w' ⟨rfl, ⟨nd, rfl⟩⟩; (try first | exact qA | exact qB))
      | (go_at_call 20; (with_reducible refine (Mul_some (HN.out _) Ux.out Uy.out Ep).mono ?_); rintro e w' ⟨rfl, ⟨nd, rfl⟩⟩; (try first | exact qA | exact qB))
      | (go_at_call 21; (with_reducible refine (epicycleref02_Mul.calls k4 x y m r _ K4.out).mono ?_); rintro e w' ⟨rfl, ⟨nd, rfl⟩⟩; (try first | exact qA | exact qB))
      | (go_at_call 31; (with_reducible refine (epicycleref03_Down.calls k5 r m p _ K5.out).mono ?_); rintro e w' ⟨rfl, ⟨nd, rfl⟩⟩; (try first | exact qA | exact qB))
      )
    repeat (go_quiet (first | (go_at_call 29; (with_reducible refine (Modulus_some HB.out).mono ?_); rintro e w' ⟨rfl, ⟨nd, rfl⟩⟩; (try first | exact qA | exact qB)) | (go_at_call 29; (with_reducible refine (Modulus_some (HN.out _)).mono ?_); rintro e w' ⟨rfl, ⟨nd, rfl⟩⟩; (try first | exact qA | exact qB)) | (go_at_call 19; (with_reducible refine (One_some HB.out Eo).mono ?_); rintro e w' ⟨rfl, ⟨nd, rfl⟩⟩; (try first | exact qA | exact qB)) | (go_at_call 19; (with_reducible refine (One_some (HN.out _) Eo).mono ?_); rintro e w' ⟨rfl, ⟨nd, rfl⟩⟩; (try first | exact qA | exact qB)) | (go_at_call 30; (with_reducible refine (epicycleref03_Up.calls k1 1 m o _ K1.out).mono ?_); rintro e w' ⟨rfl, ⟨nd, rfl⟩⟩; (try first | exact qA | exact qB)) | (go_at_call 18; (with_reducible refine (In_some HB.out Ux.out Ei).mono ?_); rintro e w' ⟨rfl, ⟨nd, rfl⟩⟩; (try first | exact qA | exact qB)) | (go_at_call 18; (with_reducible refine (In_some (HN.out _) Ux.out Ei).mono ?_); rintro e w' ⟨rfl, ⟨nd, rfl⟩⟩; (try first | exact qA | exact qB)) | (go_at_call 30; (with_reducible refine (epicycleref03_Up.calls k2 x m i _ K2.out).mono ?_); rintro e w' ⟨rfl, ⟨nd, rfl⟩⟩; (try first | exact qA | exact qB)) | (go_at_call 17; (with_reducible refine (Out_some HB.out Ux.out Ed).mono ?_); rintro e w' ⟨rfl, ⟨nd, rfl⟩⟩; (try first | exact qA | exact qB)) | (go_at_call 17; (with_reducible refine (Out_some (HN.out _) Ux.out Ed).mono ?_); rintro e w' ⟨rfl, ⟨nd, rfl⟩⟩; (try first | exact qA | exact qB)) | (go_at_call 31; (with_reducible refine (epicycleref03_Down.calls k3 q m d _ K3.out).mono ?_); rintro e w' ⟨rfl, ⟨nd, rfl⟩⟩; (try first | exact qA | exact qB)) | (go_at_call 20; (with_reducible refine (Mul_some HB.out Ux.out Uy.out Ep).mono ?_); rintro e w' ⟨rfl, ⟨nd, rfl⟩⟩; (try first | exact qA | exact qB)) | (go_at_call 20; (with_reducible refine (Mul_some (HN.out _) Ux.out Uy.out Ep).mono ?_); rintro e w' ⟨rfl, ⟨nd, rfl⟩⟩; (try first | exact qA | exact qB)) | (go_at_call 21; (with_reducible refine (epicycleref02_Mul.calls k4 x y m r _ K4.out).mono ?_); rintro e w' ⟨rfl, ⟨nd, rfl⟩⟩; (try first | exact qA | exact qB)) | (go_at_call 31; (with_reducible refine (epicycleref03_Down.calls k5 r m p _ K5.out).mono ?_); rintro e w' ⟨rfl, ⟨nd, rfl⟩⟩; (try first | exact qA | exact qB))); try go_wp2_with (first | (go_at_call 29; (with_reducible refine (Modulus_some HB.out).mono ?_); rintro e w' ⟨rfl, ⟨nd, rfl⟩⟩; (try first | exact qA | exact qB)) | (go_at_call 29; (with_reducible refine (Modulus_some (HN.out _)).mono ?_); rintro e w' ⟨rfl, ⟨nd, rfl⟩⟩; (try first | exact qA | exact qB)) | (go_at_call 19; (with_reducible refine (One_some HB.out Eo).mono ?_); rintro e w' ⟨rfl, ⟨nd, rfl⟩⟩; (try first | exact qA | exact qB)) | (go_at_call 19; (with_reducible refine (One_some (HN.out _) Eo).mono ?_); rintro e w' ⟨rfl, ⟨nd, rfl⟩⟩; (try first | exact qA | exact qB)) | (go_at_call 30; (with_reducible refine (epicycleref03_Up.calls k1 1 m o _ K1.out).mono ?_); rintro e w' ⟨rfl, ⟨nd, rfl⟩⟩; (try first | exact qA | exact qB)) | (go_at_call 18; (with_reducible refine (In_some HB.out Ux.out Ei).mono ?_); rintro e w' ⟨rfl, ⟨nd, rfl⟩⟩; (try first | exact qA | exact qB)) | (go_at_call 18; (with_reducible refine (In_some (HN.out _) Ux.out Ei).mono ?_); rintro e w' ⟨rfl, ⟨nd, rfl⟩⟩; (try first | exact qA | exact qB)) | (go_at_call 30; (with_reducible refine (epicycleref03_Up.calls k2 x m i _ K2.out).mono ?_); rintro e w' ⟨rfl, ⟨nd, rfl⟩⟩; (try first | exact qA | exact qB)) | (go_at_call 17; (with_reducible refine (Out_some HB.out Ux.out Ed).mono ?_); rintro e w' ⟨rfl, ⟨nd, rfl⟩⟩; (try first | exact qA | exact qB)) | (go_at_call 17; (with_reducible refine (Out_some (HN.out _) Ux.out Ed).mono ?_); rintro e w' ⟨rfl, ⟨nd, rfl⟩⟩; (try first | exact qA | exact qB)) | (go_at_call 31; (with_reducible refine (epicycleref03_Down.calls k3 q m d _ K3.out).mono ?_); rintro e w' ⟨rfl, ⟨nd, rfl⟩⟩; (try first | exact qA | exact qB)) | (go_at_call 20; (with_reducible refine (Mul_some HB.out Ux.out Uy.out Ep).mono ?_); rintro e w' ⟨rfl, ⟨nd, rfl⟩⟩; (try first | exact qA | exact qB)) | (go_at_call 20; (with_reducible refine (Mul_some (HN.out _) Ux.out Uy.out Ep).mono ?_); rintro e w' ⟨rfl, ⟨nd, rfl⟩⟩; (try first | exact qA | exact qB)) | (go_at_call 21; (with_reducible refine (epicycleref02_Mul.calls k4 x y m r _ K4.out).mono ?_); rintro e w' ⟨rfl, ⟨nd, rfl⟩⟩; (try first | exact qA | exact qB)) | (go_at_call 31; (with_reducible refine (epicycleref03_Down.calls k5 r m p _ K5.out).mono ?_); rintro e w' ⟨rfl, ⟨nd, rfl⟩⟩; (try first | exact qA | exact qB))))
    go_ret
    exact ⟨by first | rfl | (simp; done), by repeat (first | exact HW1.out | exact HW2.out | apply pw_below_drewN | apply below_alloc | refine below_step ?_ HW2.out | exact Below.refl _ _)⟩
  · have G1 : Aside0 (epicycleref03_Good.f m = some false) := ⟨by rw [g0, decide_eq_false hg]⟩
    have HM := Aside0.mk hg
    have HU := Aside0.mk hm
    clear hm hx hy hg g0
    go_enter Try.func7, Try.ntmps7
    go_wp2_with (first
      | (go_at_call 14; (with_reducible refine alive_calls.mono ?_); rintro e w1 ⟨rfl, hb⟩; have HW1 := Aside0.mk hb; clear hb)
      | (go_at_call 15; (with_reducible refine (New_good HM.out).mono ?_); rintro e w2 ⟨v, rfl, hc, hb⟩; have HB := Aside0.mk hc; have HN : Aside0 (∀ n, IsCtx (w2.drewN n) v m) := ⟨fun _ => hc⟩; have HW2 := Aside0.mk hb; clear hc hb)
      | (go_at_call 15; (with_reducible refine (New_bad HU.out HM.out).mono ?_); rintro e w2 ⟨rfl, ⟨nd, rfl⟩⟩)
      | (go_at_call 16; (with_reducible refine (Good_calls G1).mono ?_); rintro e w' ⟨rfl, ⟨nd, rfl⟩⟩)
      | (go_at_call 29; (with_reducible refine (Modulus_nil).mono ?_); rintro e w' ⟨rfl, ⟨nd, rfl⟩⟩; (try first | exact qA | exact qB))
      | (go_at_call 19; (with_reducible refine (One_nil).mono ?_); rintro e w' ⟨rfl, ⟨nd, rfl⟩⟩; (try first | exact qA | exact qB))
      | (go_at_call 20; (with_reducible refine (Mul_nil).mono ?_); rintro e w' ⟨rfl, ⟨nd, rfl⟩⟩; (try first | exact qA | exact qB))
      | (go_at_call 18; (with_reducible refine (In_nil).mono ?_); rintro e w' ⟨rfl, ⟨nd, rfl⟩⟩; (try first | exact qA | exact qB))
      | (go_at_call 17; (with_reducible refine (Out_nil).mono ?_); rintro e w' ⟨rfl, ⟨nd, rfl⟩⟩; (try first | exact qA | exact qB))
      | (go_at_call 22; (with_reducible refine (Add_nil).mono ?_); rintro e w' ⟨rfl, ⟨nd, rfl⟩⟩; (try first | exact qA | exact qB))
      | (go_at_call 24; (with_reducible refine (Sub_nil).mono ?_); rintro e w' ⟨rfl, ⟨nd, rfl⟩⟩; (try first | exact qA | exact qB))
      | (go_at_call 26; (with_reducible refine (Neg_nil).mono ?_); rintro e w' ⟨rfl, ⟨nd, rfl⟩⟩; (try first | exact qA | exact qB))
      | (go_at_call 27; (with_reducible refine (Pow_nil).mono ?_); rintro e w' ⟨rfl, ⟨nd, rfl⟩⟩; (try first | exact qA | exact qB))
      )
    repeat (go_quiet (first | (go_at_call 29; (with_reducible refine (Modulus_nil).mono ?_); rintro e w' ⟨rfl, ⟨nd, rfl⟩⟩; (try first | exact qA | exact qB)) | (go_at_call 19; (with_reducible refine (One_nil).mono ?_); rintro e w' ⟨rfl, ⟨nd, rfl⟩⟩; (try first | exact qA | exact qB)) | (go_at_call 20; (with_reducible refine (Mul_nil).mono ?_); rintro e w' ⟨rfl, ⟨nd, rfl⟩⟩; (try first | exact qA | exact qB)) | (go_at_call 18; (with_reducible refine (In_nil).mono ?_); rintro e w' ⟨rfl, ⟨nd, rfl⟩⟩; (try first | exact qA | exact qB)) | (go_at_call 17; (with_reducible refine (Out_nil).mono ?_); rintro e w' ⟨rfl, ⟨nd, rfl⟩⟩; (try first | exact qA | exact qB)) | (go_at_call 22; (with_reducible refine (Add_nil).mono ?_); rintro e w' ⟨rfl, ⟨nd, rfl⟩⟩; (try first | exact qA | exact qB)) | (go_at_call 24; (with_reducible refine (Sub_nil).mono ?_); rintro e w' ⟨rfl, ⟨nd, rfl⟩⟩; (try first | exact qA | exact qB)) | (go_at_call 26; (with_reducible refine (Neg_nil).mono ?_); rintro e w' ⟨rfl, ⟨nd, rfl⟩⟩; (try first | exact qA | exact qB)) | (go_at_call 27; (with_reducible refine (Pow_nil).mono ?_); rintro e w' ⟨rfl, ⟨nd, rfl⟩⟩; (try first | exact qA | exact qB))); try go_wp2_with (first | (go_at_call 29; (with_reducible refine (Modulus_nil).mono ?_); rintro e w' ⟨rfl, ⟨nd, rfl⟩⟩; (try first | exact qA | exact qB)) | (go_at_call 19; (with_reducible refine (One_nil).mono ?_); rintro e w' ⟨rfl, ⟨nd, rfl⟩⟩; (try first | exact qA | exact qB)) | (go_at_call 20; (with_reducible refine (Mul_nil).mono ?_); rintro e w' ⟨rfl, ⟨nd, rfl⟩⟩; (try first | exact qA | exact qB)) | (go_at_call 18; (with_reducible refine (In_nil).mono ?_); rintro e w' ⟨rfl, ⟨nd, rfl⟩⟩; (try first | exact qA | exact qB)) | (go_at_call 17; (with_reducible refine (Out_nil).mono ?_); rintro e w' ⟨rfl, ⟨nd, rfl⟩⟩; (try first | exact qA | exact qB)) | (go_at_call 22; (with_reducible refine (Add_nil).mono ?_); rintro e w' ⟨rfl, ⟨nd, rfl⟩⟩; (try first | exact qA | exact qB)) | (go_at_call 24; (with_reducible refine (Sub_nil).mono ?_); rintro e w' ⟨rfl, ⟨nd, rfl⟩⟩; (try first | exact qA | exact qB)) | (go_at_call 26; (with_reducible refine (Neg_nil).mono ?_); rintro e w' ⟨rfl, ⟨nd, rfl⟩⟩; (try first | exact qA | exact qB)) | (go_at_call 27; (with_reducible refine (Pow_nil).mono ?_); rintro e w' ⟨rfl, ⟨nd, rfl⟩⟩; (try first | exact qA | exact qB))))
    go_ret
    exact ⟨by first | rfl | (simp; done), by repeat (first | exact HW1.out | exact HW2.out | apply pw_below_drewN | apply below_alloc | refine below_step ?_ HW2.out | exact Below.refl _ _)⟩

end Go.Proofs.Ytcnnaciilphadaa.Mont
