/- Layer 3 (mont): powers, and contexts made. -/
import Derived.Test.YtcnnaciilphadaaCtx
namespace Go.Proofs.Ytcnnaciilphadaa.Mont
open Go Go.RowKit Go.Proofs.YtcnnaciilphadaaW.PrintWords Go.Proofs.YtcnnaciilphadaaW.PrintLast Go.Proofs.YtcnnaciilphadaaW.PrintMore Go.Proofs.Ytcnnaciilphadaa.Given Go.Proofs.Ytcnnaciilphadaa.M Go.Proofs.Ytcnnaciilphadaa.XR

/-- What is still to be multiplied. -/
def powRest (m o x : Int) (e : Nat) : Int := o * (x * rinv m) ^ e % m
theorem powRest_zero {m o x : Int} (h : o % m = o) : powRest m o x 0 = o := by unfold powRest; rw [Int.pow_zero, Int.mul_one, h]
theorem powRest_start (m x e : Int) : powRest m (mOne m) x e.toNat = mPow m x e := by
  unfold powRest mOne mPow; rw [emod_mul_l, Int.mul_comm]
theorem sq_rinv (m x : Int) : mMul m x x * rinv m % m = (x * rinv m) * (x * rinv m) % m := by
  unfold mMul
  rw [emod_mul_l]
  congr 1
  rw [Int.mul_assoc (x * x), Int.mul_mul_mul_comm_]
theorem powRest_even {m o x : Int} {e : Nat} (h : e % 2 = 0) : powRest m o (mMul m x x) (e / 2) = powRest m o x e := by
  unfold powRest
  rw [← emod_mul_r, ← emod_pow, sq_rinv, emod_pow, emod_mul_r, pow_half _ _ h]
theorem powRest_odd {m o x : Int} {e : Nat} (h : e % 2 = 1) : powRest m (mMul m o x) (mMul m x x) (e / 2) = powRest m o x e := by
  unfold powRest
  rw [← emod_mul_r, ← emod_pow, sq_rinv, emod_pow, emod_mul_r]
  unfold mMul
  rw [emod_mul_l, Int.mul_assoc o x, Int.mul_assoc o, pow_half1 _ _ h]


set_option maxHeartbeats 4000000 in
theorem Pow_some {v : Value} {m x e r : Int} {w : World} (hc : IsCtx w v m) (hx : U x) (he : U e) (hr : Aside0 (r = mPow m x e)) :
    Calls Try.prog 27 #[v, .int .u64 x, .int .u64 e] w fun e w' => e = .returned (.int .u64 r) ∧ Drawn0 w w' := by
  have hc' := hc
  obtain ⟨g, t, rfl, hb, hm, ht, hd⟩ := hc'
  obtain ⟨o, ho⟩ : ∃ o, o = mOne m := ⟨_, rfl⟩
  have k2 := hb.c2
  have f2 := blk_frozen hb 2
  rw [← ho] at k2
  have hI : U x ∧ U e ∧ U o ∧ o % m = o ∧ powRest m o x e.toNat = r := ⟨hx, he, by rw [ho]; exact U_mod hm _, by rw [ho]; exact Int.emod_emod _ _, by rw [ho, powRest_start, hr.out]⟩
  have HI := Aside0.mk hI
  have HB := Aside0.mk hc
  have HN : Aside0 (∀ n, IsCtx (w.drewN n) (.pointer (some ⟨g, 0, none⟩)) m) := ⟨fun _ => hc⟩
  have HM := Aside0.mk hm
  clear hI ho hb hm ht hd hx he hr hc
  go_enter Try.func27, Try.ntmps27
  go_wp2
  go_loopw [1, 2, 7] (fun a b c wr => ∃ X E O : Int, a = .int .u64 X ∧ b = .int .u64 E ∧ c = .int .u64 O ∧ Aside0 (U X ∧ U E ∧ U O ∧ O % m = O ∧ powRest m O X E.toNat = r) ∧ Drawn0 w wr) (fun _ b _ _ => (intOf b).toNat)
  case atStart => exact ⟨_, _, _, rfl, rfl, rfl, HI, Drawn0.refl _⟩
  case round =>
    clear HI k2 f2
    obtain ⟨X, E, O, rfl, rfl, rfl, HI, ⟨n, rfl⟩⟩ := hrel
    have hm := HM.out
    obtain ⟨uX, uE, uO, hO, hP⟩ := HI.out
    obtain ⟨X2, hX2⟩ : ∃ X2, X2 = mMul m X X := ⟨_, rfl⟩
    have S1 := Aside0.mk hX2
    have UX := Aside0.mk uX
    have UO := Aside0.mk uO
    by_cases h0 : 0 < E
    · have p0 : decide (0 < E) = true := decide_eq_true h0
      have hE0 : 0 ≤ E := by omega
      have hlt : (E / 2).toNat < E.toNat := by omega
      have hdv : (E / 2).toNat = E.toNat / 2 := by omega
      have uX2 : U X2 := by rw [hX2]; exact U_mod hm _
      have uE2 : U (E / 2) := by unfold U at *; omega
      have HLT := Aside0.mk hlt
      by_cases h1 : E % 2 = 1
      · have b1 : (Go.bits .and .u64 E 1 == 1) = true := by rw [and1 E uE, h1]; rfl
        obtain ⟨O2, hO2⟩ : ∃ O2, O2 = mMul m O X := ⟨_, rfl⟩
        have S2 := Aside0.mk hO2
        have HI' : Aside0 (U X2 ∧ U (E / 2) ∧ U O2 ∧ O2 % m = O2 ∧ powRest m O2 X2 (E / 2).toNat = r) :=
          ⟨uX2, uE2, by rw [hO2]; exact U_mod hm _, by rw [hO2]; exact Int.emod_emod _ _, by rw [hO2, hX2, hdv, powRest_odd (by omega), hP]⟩
        clear h0 hlt hdv uX2 uE2 h1 hO2 uX uE uO hO hP hX2 hm HI
        go_wp2_with (first
          | (go_at_call 20; (with_reducible refine (Mul_some HB.out UO.out UX.out S2).mono ?_); rintro e w' ⟨rfl, ⟨nd, rfl⟩⟩; (try first | exact qA | exact qB))
          | (go_at_call 20; (with_reducible refine (Mul_some (HN.out _) UO.out UX.out S2).mono ?_); rintro e w' ⟨rfl, ⟨nd, rfl⟩⟩; (try first | exact qA | exact qB))
          | (go_at_call 20; (with_reducible refine (Mul_some HB.out UX.out UX.out S1).mono ?_); rintro e w' ⟨rfl, ⟨nd, rfl⟩⟩; (try first | exact qA | exact qB))
          | (go_at_call 20; (with_reducible refine (Mul_some (HN.out _) UX.out UX.out S1).mono ?_); rintro e w' ⟨rfl, ⟨nd, rfl⟩⟩; (try first | exact qA | exact qB))
          )
        go_roundw
        case rel => exact ⟨X2, E / 2, O2, rfl, by first | rfl | (simp; done), rfl, HI', by repeat (first | exact Drawn0.refl _ | apply Drawn0.step)⟩
        case measure => simp [intOf]; have := HLT.out; omega
      · have b1 : (Go.bits .and .u64 E 1 == 1) = false := by rw [and1 E uE]; exact beq_eq_false_iff_ne.mpr h1
        have HI' : Aside0 (U X2 ∧ U (E / 2) ∧ U O ∧ O % m = O ∧ powRest m O X2 (E / 2).toNat = r) :=
          ⟨uX2, uE2, uO, hO, by rw [hX2, hdv, powRest_even (by omega), hP]⟩
        clear h0 hlt hdv uX2 uE2 h1 uX uE uO hO hP hX2 hm HI
        go_wp2_with (first
          | (go_at_call 20; (with_reducible refine (Mul_some HB.out UX.out UX.out S1).mono ?_); rintro e w' ⟨rfl, ⟨nd, rfl⟩⟩; (try first | exact qA | exact qB))
          | (go_at_call 20; (with_reducible refine (Mul_some (HN.out _) UX.out UX.out S1).mono ?_); rintro e w' ⟨rfl, ⟨nd, rfl⟩⟩; (try first | exact qA | exact qB))
          )
        go_roundw
        case rel => exact ⟨X2, E / 2, O, rfl, by first | rfl | (simp; done), rfl, HI', by repeat (first | exact Drawn0.refl _ | apply Drawn0.step)⟩
        case measure => simp [intOf]; have := HLT.out; omega
    · have p0 : decide (0 < E) = false := decide_eq_false h0
      have hz : E.toNat = 0 := by omega
      have HR : Aside0 (O = r) := ⟨by rw [← hP, hz, powRest_zero hO]⟩
      clear h0 hz uX uE uO hO hP hX2 hm HI
      go_wp2
      go_ret
      exact ⟨by rw [HR.out] <;> first | rfl | (simp; done), by repeat (first | exact Drawn0.refl _ | apply Drawn0.step)⟩

theorem Pow_nil {x e : Int} {w : World} :
    Calls Try.prog 27 #[.pointer none, .int .u64 x, .int .u64 e] w fun e w' => e = .returned (.int .u64 0) ∧ Drawn0 w w' := by
  go_enter Try.func27, Try.ntmps27
  go_wp2
  go_ret
  exact ⟨by first | rfl | (simp; done), by repeat (first | exact Drawn0.refl _ | apply Drawn0.step)⟩

/-- How many of the lowest bits are right behind i steps. -/
def newtonD : Nat → Int
  | 0 => 8
  | 1 => 64
  | 2 => 4096
  | 3 => 16777216
  | 4 => 281474976710656
  | _ => 18446744073709551616

theorem newton_step {m x : Int} (i : Nat) (hi : i < 5) (hx : newtonD i ∣ m * x - 1) :
    newtonD (i + 1) ∣ m * IntKind.u64.wrap (x * IntKind.u64.wrap (2 - IntKind.u64.wrap (m * x))) - 1 := by
  have h : i = 0 ∨ i = 1 ∨ i = 2 ∨ i = 3 ∨ i = 4 := by omega
  rcases h with rfl | rfl | rfl | rfl | rfl
  · exact newton (E := 64) hx ⟨1, by decide⟩ ⟨288230376151711744, by decide⟩
  · exact newton (E := 4096) hx ⟨1, by decide⟩ ⟨4503599627370496, by decide⟩
  · exact newton (E := 16777216) hx ⟨1, by decide⟩ ⟨1099511627776, by decide⟩
  · exact newton (E := 281474976710656) hx ⟨1, by decide⟩ ⟨65536, by decide⟩
  · exact newton (E := 18446744073709551616) hx ⟨4294967296, by decide⟩ ⟨1, by decide⟩

theorem U_wrapA (x : Int) : Aside0 (U (IntKind.u64.wrap x)) := ⟨U_wrap x⟩

set_option maxHeartbeats 4000000 in
theorem New_good {m : Int} {w : World} (hm : GoodM m) :
    Calls Try.prog 15 #[.int .u64 m] w fun e w' => ∃ v, e = .returned (.tuple #[v, .int .i64 0]) ∧ IsCtx w' v m ∧ Below w.heap.size w w' := by
  have b1 : (Go.bits .and .u64 m 1 == 0) = false := by rw [and1 m (good_U hm), hm.1]; rfl
  have b2 : decide (m < 3) = false := decide_eq_false (by unfold GoodM at hm; omega)
  have b3 : decide (9223372036854775808 ≤ m) = false := decide_eq_false (by unfold GoodM at hm; omega)
  have hz : (m == 0) = false := beq_eq_false_iff_ne.mpr (good_ne hm)
  have hz1 : ¬ m = 0 := good_ne hm
  obtain ⟨o, ho⟩ : ∃ o, o = mOne m := ⟨_, rfl⟩
  have hone : Int.tmod (IntKind.u64.wrap (-m)) m = o := by
    have : IntKind.u64.wrap (-m) = 18446744073709551616 - m := by rw [wu64]; unfold GoodM at hm; omega
    rw [this, tmod_pos (by unfold GoodM at hm; omega), ho, Int.sub_emod_right]; rfl
  have uo : U o := by rw [ho]; exact U_mod hm _
  have uom : o < m := by rw [ho]; exact lt_mod hm _
  have p0 : 0 ≤ o * o := Int.mul_nonneg uo.1 uo.1
  have p1 : o * o ≤ (m - 1) * (m - 1) := Int.mul_le_mul (by omega) (by omega) uo.1 (by unfold GoodM at hm; omega)
  have p2 : (m - 1) * (m - 1) < m * 18446744073709551616 := by
    have : (m - 1) * (m - 1) ≤ (m - 1) * 18446744073709551616 := Int.mul_le_mul_of_nonneg_left (by unfold GoodM at hm; omega) (by unfold GoodM at hm; omega)
    unfold GoodM at hm; omega
  obtain ⟨h, hh⟩ : ∃ h, h = o * o / 18446744073709551616 := ⟨_, rfl⟩
  obtain ⟨l, hl⟩ : ∃ l, l = o * o % 18446744073709551616 := ⟨_, rfl⟩
  have M1 : Aside0 (bits_Mul64.f o o = some (h, l)) := ⟨by unfold bits_Mul64.f; rw [if_pos ⟨uo.1, uo.2, uo.1, uo.2⟩, hh, hl]⟩
  obtain ⟨s, hs⟩ : ∃ s, s = mSq m := ⟨_, rfl⟩
  obtain ⟨k, hk⟩ := Ev.rounds (bits_Rem64_ev h l m (by rw [hh]; unfold GoodM at hm; unfold U; omega) (by rw [hl]; unfold U; omega) (good_U hm) (good_ne hm))
  have K1 : Aside0 (bits_Rem64.f k h l m = some s) := ⟨by rw [hk, hs, hh, hl]; unfold mSq; rw [← ho]; congr 2; omega⟩
  have HM := Aside0.mk hm
  have HO := Aside0.mk ho
  have HS := Aside0.mk hs
  have hI : U m ∧ newtonD 0 ∣ m * m - 1 := ⟨good_U hm, newton0 hm.1⟩
  have HI := Aside0.mk hI
  clear hI ho hs uo uom p0 p1 p2 hh hl hk hm
  go_enter Try.func15, Try.ntmps15
  go_wp2
  go_loop [4, 20] (fun a c => ∃ (i : Nat) (X : Int), i ≤ 5 ∧ a = .int .u64 X ∧ c = .int .i64 i ∧ Aside0 (U X ∧ newtonD i ∣ m * X - 1)) (fun _ c => 5 - (intOf c).toNat)
  case atStart => exact ⟨0, m, by omega, rfl, rfl, HI⟩
  case round =>
    clear HI
    obtain ⟨i, X, hi5, rfl, rfl, HI⟩ := hrel
    by_cases hi : i < 5
    · have p0 : decide (i < 5) = true := decide_eq_true hi
      have HI' : Aside0 (U (IntKind.u64.wrap (X * IntKind.u64.wrap (2 - IntKind.u64.wrap (m * X)))) ∧ newtonD (i + 1) ∣ m * IntKind.u64.wrap (X * IntKind.u64.wrap (2 - IntKind.u64.wrap (m * X))) - 1) :=
        ⟨U_wrap _, newton_step i hi HI.out.2⟩
      clear HI
      go_wp2
      go_round
      case rel => exact ⟨i + 1, _, by omega, rfl, by go_num, HI'⟩
      case measure => simp [intOf]; omega
    · obtain rfl : i = 5 := by omega
      have p0 : decide ((5 : Nat) < 5) = false := by decide
      have hU := HI.out.1
      have hd : (18446744073709551616 : Int) ∣ m * IntKind.u64.wrap (-X) + 1 := by
        rw [wu64]
        have a1 : (18446744073709551616 : Int) ∣ -X % 18446744073709551616 - -X := dvd_emod_sub _ _
        have a2 : (18446744073709551616 : Int) ∣ m * X - 1 := HI.out.2
        generalize -X % 18446744073709551616 = B at *
        have e : m * B + 1 = m * (B - -X) - (m * X - 1) := by
          rw [Int.mul_sub, Int.mul_neg]; omega
        rw [e]
        exact Int.dvd_sub (Int.dvd_mul_of_dvd_right a1) a2
      have HD := Aside0.mk hd
      clear hd hU HI hi hi5
      go_wp2_with (first
        | (go_at_call 40; (with_reducible refine (mul64_calls M1).mono ?_); rintro e w' ⟨rfl, ⟨nd, rfl⟩⟩; (try first | exact qA | exact qB))
        | (go_at_call 41; (with_reducible refine (bits_Rem64.calls k h l m s _ K1.out).mono ?_); rintro e w' ⟨rfl, ⟨nd, rfl⟩⟩; (try first | exact qA | exact qB))
        )
      go_ret2
      refine ⟨.pointer (some ⟨w.heap.size, 0, none⟩), by first | rfl | (simp; done), ⟨w.heap.size, IntKind.u64.wrap (-X), rfl, ?_, HM.out, U_wrap _, HD.out⟩, by repeat (first | exact Below.refl _ _ | apply below_alloc | apply pw_below_drewN)⟩
      unfold CtxBlk
      rw [← HO.out, ← HS.out]
      exact blk_new _ _

set_option maxHeartbeats 2000000 in
theorem New_bad {m : Int} {w : World} (hu : U m) (hm : ¬ GoodM m) :
    Calls Try.prog 15 #[.int .u64 m] w fun e w' => e = .returned (.tuple #[.pointer none, .int .i64 1]) ∧ Drawn0 w w' := by
  by_cases h1 : m % 2 = 0
  · have b1 : (Go.bits .and .u64 m 1 == 0) = true := by rw [and1 m hu, h1]; rfl
    clear h1 hu hm
    go_enter Try.func15, Try.ntmps15
    go_wp2
    go_ret2
    exact ⟨by first | rfl | (simp; done), by repeat (first | exact Drawn0.refl _ | apply Drawn0.step)⟩
  · have b1 : (Go.bits .and .u64 m 1 == 0) = false := by rw [and1 m hu]; exact beq_eq_false_iff_ne.mpr h1
    by_cases h2 : m < 3
    · have b2 : decide (m < 3) = true := decide_eq_true h2
      clear h1 h2 hu hm
      go_enter Try.func15, Try.ntmps15
      go_wp2
      go_ret2
      exact ⟨by first | rfl | (simp; done), by repeat (first | exact Drawn0.refl _ | apply Drawn0.step)⟩
    · have b2 : decide (m < 3) = false := decide_eq_false h2
      have b3 : decide (9223372036854775808 ≤ m) = true := decide_eq_true (by unfold GoodM at hm; omega)
      clear h1 h2 hu hm
      go_enter Try.func15, Try.ntmps15
      go_wp2
      go_ret2
      exact ⟨by first | rfl | (simp; done), by repeat (first | exact Drawn0.refl _ | apply Drawn0.step)⟩

end Go.Proofs.Ytcnnaciilphadaa.Mont
